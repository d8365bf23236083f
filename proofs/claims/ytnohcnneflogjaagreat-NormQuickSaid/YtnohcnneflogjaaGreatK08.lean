/- The full decomposition, walked: the document's. -/
import Derived.Test.YtnohcnneflogjaaGreatK07
import Derived.Deep.DeepMust
set_option maxHeartbeats 16000000
set_option maxRecDepth 100000
set_option linter.unusedVariables false
set_option linter.unusedSimpArgs false
namespace Go.Proofs.YtnohcnneflogjaaGreat.M
open Go.RowKit
def AtOr (w : World) (b b' : Option Nat) : Prop := b' = b ∨ ∃ k, b' = some k ∧ w.heap.size ≤ k
theorem AtOr.trans {w w1 : World} {b b1 b2 : Option Nat} (h : AtOr w b b1) (k : AtOr w1 b1 b2) (hs : w.heap.size ≤ w1.heap.size) : AtOr w b b2 := by
 rcases k with rfl | ⟨k, rfl, hk⟩
 ·exact h
 ·exact .inr ⟨k, rfl, by omega⟩
theorem grownBy_refl (w : World) (b : Option Nat) : w.grownBy w b := ⟨rfl, rfl, rfl, Nat.le_refl _, fun _ _ _ => rfl⟩
theorem grownBy_step {w w1 w2 : World} {b b1 : Option Nat} (h : w.grownBy w1 b) (k : w1.grownBy w2 b1) (hb : AtOr w b b1) : w.grownBy w2 b :=
 ⟨k.os.trans h.os, k.tape.trans h.tape, k.output.trans h.output, Nat.le_trans h.size k.size, fun i hi hne => by
  rw [k.block i (Nat.lt_of_lt_of_le hi h.size) (by
   rcases hb with rfl | ⟨j, rfl, hj⟩
   ·exact hne
   ·simp; omega), h.block i hi hne]⟩
theorem grownBy_up {w w1 w2 : World} {b : Option Nat} (h : Up w w1) (k : w1.grownBy w2 b) : w.grownBy w2 b :=
 ⟨k.os.trans h.os, k.tape.trans h.tape, k.output.trans h.output, Nat.le_trans h.size k.size, fun i hi hne => by
  rw [k.block i (Nat.lt_of_lt_of_le hi h.size) hne, h.block i hi]⟩
theorem up_grownBy {w w1 : World} {b : Option Nat} (h : Up w w1) : w.grownBy w1 b := ⟨h.os, h.tape, h.output, h.size, fun i hi _ => h.block i hi⟩
theorem below_grownBy {B : Nat} {w w1 : World} {b : Option Nat} (h : w.grownBy w1 b) (hB : B ≤ w.heap.size) (hb : ∀ k, b = some k → B ≤ k) : Below B w w1 :=
 ⟨h.os, h.tape, h.output, h.size, fun i hi => h.block i (by omega) (fun e => by have := hb i e.symm; omega)⟩
theorem own_grown {w w' : World} {base : Nat} {e : TypeId} {size : Nat} {v : Value} {n : Nat} {xs : List Value} {b : Option Nat} (h : w.ownsRow base e size v n xs) (hg : w.grownBy w' b) (hne : ∀ k, v.ownBlock = some k → b ≠ some k) : w'.ownsRow base e size v n xs :=
 own_block h fun g hg' => hg.block g (h.lt g hg').2 (fun e => hne g hg' e.symm)
theorem cells_grown {w w' : World} {A : Option Addr} {vs : List Value} {b : Option Nat} (h : Cells w A vs) (hg : w.grownBy w' b) (hne : ∀ ad, A = some ad → b ≠ some ad.block) : Cells w' A vs := fun i v hv => by
 obtain ⟨ad, hA, hc⟩ := h i v hv
 have hb : (ad.add i).block = ad.block := by unfold Addr.add; split <;> rfl
 refine ⟨ad, hA, ?_⟩
 exact hg.cell hc (by rw [hb]; exact fun e => hne ad hA e.symm)
theorem own_mono {w : World} {base base' : Nat} {e : TypeId} {size : Nat} {v : Value} {n : Nat} {xs : List Value} (h : w.ownsRow base e size v n xs) (hb : base' ≤ base) : w.ownsRow base' e size v n xs := by
 refine ⟨h.1, ?_⟩
 rcases h.2 with hn | ⟨g, cap, cur, rfl, hg, rest⟩
 ·exact .inl hn
 ·exact .inr ⟨g, cap, cur, rfl, Nat.le_trans hb hg, rest⟩
theorem own_any {w : World} {base : Nat} {e : TypeId} {size : Nat} {v : Value} {n : Nat} {xs : List Value} (h : w.ownsRow base e size v n xs) : ∃ A cap, v = .slice A n cap := by
 rcases own_cases h with ⟨h1, h2, _⟩ | ⟨g, cap, h1, _⟩
 ·exact ⟨none, 0, by rw [h1, h2]⟩
 ·exact ⟨_, cap, h1⟩
theorem build_i32 (a : Int) (w : World) : (Instr.buildSlice 23 1 #[(0, .int .i32 a)]).run Tryz.prog w = .ok (.slice (some ⟨w.heap.size, 0, none⟩) 1 1) (w.alloc (.cells #[.int .i32 a] 21)) := by kernel_rfl
theorem cells_one (w : World) (x : Value) (t : TypeId) : Cells (w.alloc (.cells #[x] t)) (some ⟨w.heap.size, 0, none⟩) [x] := fun j u hu => ⟨_, rfl, cell_one_new w x t j u hu⟩
theorem openF_range {T : List Rec} {d : Int} (hW : ∀ x ∈ T, x.Wf) : ∀ t ∈ openF T d, -2147483648 ≤ t ∧ t ≤ 2147483647 := by
 intro t ht
 unfold openF at ht
 split at ht
 ·rename_i hs
  have := syl_iff hs
  unfold sylA sylB at ht
  simp only [List.mem_cons, List.not_mem_nil, or_false] at ht
  split at ht <;> omega
 ·split at ht
  ·rename_i r hr
   have hm : r ∈ T := List.mem_of_find?_eq_some hr
   have := (hW r hm).to t ht
   simp only [Lit.wf, Bool.and_eq_true, decide_eq_true_eq] at this
   exact ⟨this.1, this.2⟩
  ·simp at ht
theorem openF_len {T : List Rec} {d : Int} (hW : ∀ x ∈ T, x.Wf) : (openF T d).length * 4 ≤ 140737488351232 := by
 unfold openF
 split
 ·show 2 * 4 ≤ 140737488351232
  decide
 ·split
  ·rename_i r hr
   exact (hW r (List.mem_of_find?_eq_some hr)).len
  ·show 0 * 4 ≤ 140737488351232
   decide
def RetWalk (r : Except Int (List Int)) (base : Nat) (vo : Value) (w : World) (e : Ending) (w' : World) : Prop :=
 match r with
 | .ok l => ∃ v, e = .returned (.tuple #[v, .int .i64 0]) ∧ w'.ownsRow base 21 1 v l.length (l.map (Value.int .i32)) ∧ w.grownBy w' vo.ownBlock ∧ AtOr w vo.ownBlock v.ownBlock ∧ l.length ≤ 32
 | .error n => e = .returned (.tuple #[nilS, .int .i64 n]) ∧ w.grownBy w' vo.ownBlock ∧ n ≠ 0
def RWalkC (w0 : World) (A : Option Addr) (c : Nat) (T : List Rec) (fuel : Nat) : Prop :=
 ∀ (d : Int) (way out : List Int) (Aw : Option Addr) (cw : Nat) (vo : Value) (w : World), -2147483648 ≤ d → d ≤ 2147483647 → Below w0.heap.size w0 w → way.length + fuel = 16 → Ints .i32 w Aw way → (∀ ad, Aw = some ad → vo.ownBlock ≠ some ad.block) → out.length ≤ 32 →
   w.ownsRow w0.heap.size 21 1 vo out.length (out.map (Value.int .i32)) →
   Calls Tryz.prog 131 #[.slice A T.length c, .int .i32 d, .slice Aw way.length cw, vo] w (RetWalk (walkF T fuel d way out) w0.heap.size vo w)
theorem walkF_nil {T : List Rec} {fuel : Nat} {d : Int} {way out : List Int} (h : openF T d = []) : walkF T fuel d way out = if out.length = 32 then .error 2 else .ok (out ++ [d]) := by
 cases fuel <;> simp [walkF, h]
theorem walkF_loop {T : List Rec} {fuel : Nat} {d : Int} {way out : List Int} (h : openF T d ≠ []) (hw : d ∈ way) : walkF T fuel d way out = .error 72 := by
 cases fuel <;> simp [walkF, h, hw]
theorem walkF_deep {T : List Rec} {d : Int} {way out : List Int} (h : openF T d ≠ []) (hw : d ∉ way) : walkF T 0 d way out = .error 73 := by
 simp [walkF, h, hw]
theorem walkF_step {T : List Rec} {fuel : Nat} {d : Int} {way out : List Int} (h : openF T d ≠ []) (hw : d ∉ way) : walkF T (fuel + 1) d way out = (openF T d).foldlM (fun o t => walkF T fuel t (way ++ [d]) o) out := by
 simp [walkF, h, hw]
theorem Rwalk_leaf (w0 : World) (A : Option Addr) (c : Nat) (T : List Rec) (hT : Table w0 A T) (hR : ∀ x ∈ T, Right x) (hW : ∀ x ∈ T, x.Wf) (hl : T.length ≤ 4096) (fuel : Nat) (d : Int) (way out : List Int) (Aw : Option Addr) (cw : Nat) (vo : Value) (w : World) (hd1 : -2147483648 ≤ d) (hd2 : d ≤ 2147483647) (hB : Below w0.heap.size w0 w)
 (hol : out.length ≤ 32) (hown : w.ownsRow w0.heap.size 21 1 vo out.length (out.map (Value.int .i32))) (ho : openF T d = []) :
 Calls Tryz.prog 131 #[.slice A T.length c, .int .i32 d, .slice Aw way.length cw, vo] w (RetWalk (walkF T fuel d way out) w0.heap.size vo w) := by
 rw [walkF_nil ho]
 have HT := Az.mk (hT.up hB)
 have HR := Az.mk hR
 have HW := Az.mk hW
 have HO := Az.mk ho
 have HOWN := Az.mk hown
 have HB := Az.mk hB
 have hbi := fun a W => build_i32 a W
 obtain ⟨ie, ze, hie, hze, hsi, hby, hzc⟩ := i32_info
 have HLEN : Az (out.length + 1 ≤ maxLen ∧ (out.length + 1) * 4 ≤ 140737488355328) := ⟨by unfold maxLen; omega⟩
 clear hT hR hW ho hown hB
 by_cases hfull : out.length = 32
 ·rw [if_pos hfull]
  have d1 : decide ((32 : Int) < (out.length : Int) + 1) = true := dTz (by omega)
  have d2 : decide (32 < out.length + 1) = true := dTz (by omega)
  clear hfull
  go_enter Tryz.func131, Tryz.ntmps131
  go_wp2_with (first | (go_at_call 138; (with_reducible refine (ROpen_calls A c T d _ HT.out HR.out HW.out hl hd1 hd2).mono ?_); rintro e w2 ⟨v, rfl, hownx, hb2⟩; rw [HO.out] at hownx; obtain ⟨Ax, cx, rfl⟩ := own_any hownx; clear hownx) | (at_builtin; (refine wpList_append_row _ rfl _ _ 23 rfl w0.heap.size 21 ie ze 1 4 Tryz.underlying23 hie hze hsi hby hzc (by decide) vo out.length (out.map (Value.int .i32)) rfl ((own_up HOWN.out hb2).alloc _) (some ⟨w2.heap.size, 0, none⟩) 1 1 [.int .i32 d] rfl rfl (cells_one _ _ _) (ints_one .i32 [d]) ?ha ?hb ?hc ?_); (case ha => exact HLEN.out.1); (case hb => exact HLEN.out.2); (case hc => exact Nat.le_trans HB.out.size (up_trans hb2 (up_alloc (up_refl _) _)).size); intro v' w3 hown' hgrow hat; obtain ⟨Av, cv, rfl⟩ := own_any hown'))
  all_goals go_ret2
  all_goals exact ⟨rfl, grownBy_up hb2 (grownBy_up (up_alloc (up_refl _) _) hgrow), by decide⟩
 ·rw [if_neg hfull]
  have d1 : decide ((32 : Int) < (out.length : Int) + 1) = false := dFz (by omega)
  have d2 : decide (32 < out.length + 1) = false := dFz (by omega)
  have hl32 : (out ++ [d]).length ≤ 32 := by simp; omega
  have HL32 := Az.mk hl32
  clear hfull hl32
  go_enter Tryz.func131, Tryz.ntmps131
  go_wp2_with (first | (go_at_call 138; (with_reducible refine (ROpen_calls A c T d _ HT.out HR.out HW.out hl hd1 hd2).mono ?_); rintro e w2 ⟨v, rfl, hownx, hb2⟩; rw [HO.out] at hownx; obtain ⟨Ax, cx, rfl⟩ := own_any hownx; clear hownx) | (at_builtin; (refine wpList_append_row _ rfl _ _ 23 rfl w0.heap.size 21 ie ze 1 4 Tryz.underlying23 hie hze hsi hby hzc (by decide) vo out.length (out.map (Value.int .i32)) rfl ((own_up HOWN.out hb2).alloc _) (some ⟨w2.heap.size, 0, none⟩) 1 1 [.int .i32 d] rfl rfl (cells_one _ _ _) (ints_one .i32 [d]) ?ha ?hb ?hc ?_); (case ha => exact HLEN.out.1); (case hb => exact HLEN.out.2); (case hc => exact Nat.le_trans HB.out.size (up_trans hb2 (up_alloc (up_refl _) _)).size); intro v' w3 hown' hgrow hat; obtain ⟨Av, cv, rfl⟩ := own_any hown'))
  all_goals go_ret2
  all_goals exact ⟨_, rfl, by simpa using hown', grownBy_up hb2 (grownBy_up (up_alloc (up_refl _) _) hgrow), AtOr.trans (.inl rfl) (by rcases hat with h | h; exact .inl h; exact .inr ⟨_, h, Nat.le_refl _⟩) (up_trans hb2 (up_alloc (up_refl _) _)).size, HL32.out⟩
theorem fold_drop {α β : Type} {ε : Type} (f : β → α → Except ε β) (X : List α) (i : Nat) (o : β) (hi : i < X.length) : (X.drop i).foldlM f o = (f o X[i]).bind (fun o' => (X.drop (i + 1)).foldlM f o') := by
 rw [List.drop_eq_getElem_cons hi, List.foldlM_cons]
 rfl
theorem fold_err {T : List Rec} {m : Nat} {way : List Int} (h : ∀ t o n, walkF T m t way o = .error n → n ≠ 0) : ∀ (X : List Int) (o : List Int) (n : Int), X.foldlM (fun o t => walkF T m t way o) o = .error n → n ≠ 0
 | [], o, n, e => by cases e
 | x :: X, o, n, e => by
   rw [List.foldlM_cons] at e
   cases hx : walkF T m x way o with
   | error k =>
     rw [hx] at e
     have e' : Except.error k = (Except.error n : Except Int (List Int)) := e
     cases e'
     exact h x o _ hx
   | ok l =>
     rw [hx] at e
     exact fold_err h X l n e
theorem walkF_err {T : List Rec} : ∀ {fuel : Nat} {d : Int} {way out : List Int} {n : Int}, walkF T fuel d way out = .error n → n ≠ 0
 | fuel, d, way, out, n, h => by
   by_cases ho : openF T d = []
   ·rw [walkF_nil ho] at h
    split at h
    ·cases h; decide
    ·cases h
   ·by_cases hw : d ∈ way
    ·rw [walkF_loop ho hw] at h
     cases h; decide
    ·cases fuel with
     | zero =>
       rw [walkF_deep ho hw] at h
       cases h; decide
     | succ m =>
       rw [walkF_step ho hw] at h
       exact fold_err (fun t o n e => walkF_err e) _ _ _ h
theorem Rwalk_node (w0 : World) (A : Option Addr) (c : Nat) (T : List Rec) (hT : Table w0 A T) (hR : ∀ x ∈ T, Right x) (hW : ∀ x ∈ T, x.Wf) (hl : T.length ≤ 4096) (fuel : Nat) (IH : ∀ m, fuel = m + 1 → RWalkC w0 A c T m) (d : Int) (way out : List Int) (Aw : Option Addr) (cw : Nat) (vo : Value) (w : World) (hd1 : -2147483648 ≤ d) (hd2 : d ≤ 2147483647) (hB : Below w0.heap.size w0 w)
 (hfu : way.length + fuel = 16) (hway : Ints .i32 w Aw way) (hap : ∀ ad, Aw = some ad → vo.ownBlock ≠ some ad.block) (hol : out.length ≤ 32) (hown : w.ownsRow w0.heap.size 21 1 vo out.length (out.map (Value.int .i32))) (ho : openF T d ≠ []) :
 Calls Tryz.prog 131 #[.slice A T.length c, .int .i32 d, .slice Aw way.length cw, vo] w (RetWalk (walkF T fuel d way out) w0.heap.size vo w) := by
 have HT := Az.mk (hT.up hB)
 have HR := Az.mk hR
 have HW := Az.mk hW
 have HOWN := Az.mk hown
 have HB := Az.mk hB
 have HAP := Az.mk hap
 have HWAY := Az.mk hway
 have HIH := Az.mk IH
 have hbi := fun a W => build_i32 a W
 obtain ⟨ie, ze, hie, hze, hsi, hby, hzc⟩ := i32_info
 have hwl : way.length ≤ 16 := by omega
 have HLEN : Az (0 + way.length + 1 ≤ maxLen ∧ (0 + way.length + 1) * 4 ≤ 140737488355328) := ⟨by unfold maxLen; omega⟩
 obtain ⟨r, hr⟩ : ∃ r, walkF T fuel d way out = r := ⟨_, rfl⟩
 rw [hr]
 have HRES := Az.mk hr
 obtain ⟨X, hX⟩ : ∃ X, openF T d = X := ⟨_, rfl⟩
 have HXR : Az (∀ t ∈ X, -2147483648 ≤ t ∧ t ≤ 2147483647) := ⟨by rw [← hX]; exact openF_range hW⟩
 have hXl : X.length ≤ 35184372087808 := by have := openF_len (T := T) (d := d) hW; rw [hX] at this; omega
 have HX0 : Az (X ≠ []) := ⟨by rw [← hX]; exact ho⟩
 have hX1 : 0 < X.length := List.length_pos_iff.2 HX0.out
 have z1 : ((X.length : Int) == 0) = false := bqf (by omega)
 have HX := Az.mk hX
 have HFU := Az.mk hfu
 have HO := Az.mk ho
 clear hT hR hW hown hB hap hway IH hr hX hfu ho
 go_enter Tryz.func131, Tryz.ntmps131
 go_wp2_with (first | (go_at_call 138; (with_reducible refine (ROpen_calls A c T d _ HT.out HR.out HW.out hl hd1 hd2).mono ?_); rintro e w2 ⟨v, rfl, hownx, hb2⟩; rw [HX.out] at hownx; obtain ⟨Ax, cx, rfl⟩ := own_any hownx; have HXO := Az.mk hownx; clear hownx))
 have HB2 := Az.mk hb2
 clear hb2
 go_loopg [11] way.length (fun k v11 w' => ∃ i : Nat, v11 = .int .i64 i ∧ Az (i + k = way.length ∧ ∀ j, j < i → rd way (j : Int) ≠ d) ∧ w2 = w')
 case atStart => exact ⟨0, rfl, ⟨Nat.zero_add _, fun j hj => absurd hj (Nat.not_lt_zero _)⟩, rfl⟩
 case round =>
  obtain ⟨i, rfl, HI, hww⟩ := hrel
  subst hww
  have hi := HI.out.1
  cases gk with
  | succ k =>
    have hlt : decide ((i : Int) < (way.length : Int)) = true := dTz (by omega)
    have hln : decide (i < way.length) = true := dTz (by omega)
    have p1 : 0 ≤ (i : Int) := by omega
    have p2 : (i : Int) < (way.length : Int) := by omega
    obtain ⟨ad, hA, hcell⟩ := Ints.at_ HWAY.out i p1 p2
    replace hcell := up_cell HB2.out hcell
    rw [Int.toNat_natCast] at hcell
    subst hA
    by_cases hq : rd way (i : Int) = d
    ·have t1 : (rd way (i : Int) == d) = true := beq_iff_eq.mpr hq
     have hmem : d ∈ way := by
      rw [rd_get way i (by omega)] at hq
      rw [← hq]
      exact List.getElem_mem _
     have h1 := walkF_loop (fuel := fuel) (out := out) HO.out hmem
     rw [HRES.out] at h1
     subst h1
     clear hq hmem
     go_wp2
     go_ret2
     exact ⟨rfl, up_grownBy HB2.out, by decide⟩
    ·have t1 : (rd way (i : Int) == d) = false := bqf hq
     have HQ := Az.mk hq
     clear hq
     go_wp2
     go_roundg k
     case measure => have := HI.out.1; omega
     case rel => exact ⟨i + 1, rfl, ⟨by have := HI.out.1; omega, fun j hj => by
      by_cases hji : j = i
      ·subst hji; exact HQ.out
      ·exact HI.out.2 j (by omega)⟩, rfl⟩
  | zero =>
    have hlt : decide ((i : Int) < (way.length : Int)) = false := dFz (by omega)
    have hln : decide (i < way.length) = false := dFz (by omega)
    have HNM : Az (d ∉ way) := ⟨fun hm => by
     obtain ⟨j, hj, hjd⟩ := List.getElem_of_mem hm
     exact HI.out.2 j (by omega) (by rw [rd_get way j hj]; exact hjd)⟩
    clear HI hi
    cases fuel with
    | zero =>
      have t2 : ((way.length : Int) == 16) = true := beq_iff_eq.mpr (by have := HFU.out; omega)
      have t3 : (way.length == 16) = true := beq_iff_eq.mpr (by have := HFU.out; omega)
      have h1 := walkF_deep (out := out) HO.out HNM.out
      rw [HRES.out] at h1
      subst h1
      go_wp2
      go_ret2
      exact ⟨rfl, up_grownBy HB2.out, by decide⟩
    | succ fuel =>
      have t2 : ((way.length : Int) == 16) = false := bqf (by have := HFU.out; omega)
      have t3 : (way.length == 16) = false := bqf (by have := HFU.out; omega)
      have HB3 : Az (Up w2 w2) := ⟨up_refl _⟩
      go_wp2_with (first | (at_builtin; (refine wpList_append_row _ rfl _ _ 23 rfl w2.heap.size 21 ie ze 1 4 Tryz.underlying23 hie hze hsi hby hzc (by decide) _ 0 [] rfl (World.ownsRow_nil _ _ _ _) Aw way.length cw (way.map (Value.int .i32)) rfl (by simp) ?ha (ints_one _ _) ?hb ?hc ?hd ?_); (case ha => exact HWAY.out.up HB2.out); (case hb => exact Nat.le_of_succ_le HLEN.out.1); (case hc => exact Nat.le_trans (Nat.mul_le_mul_right 4 (Nat.le_succ _)) HLEN.out.2); (case hd => exact HB3.out.size); intro v1 w3 hown1 hgrow1 hat1; clear hat1) | (at_builtin; (refine wpList_append_row _ rfl _ _ 23 rfl w2.heap.size 21 ie ze 1 4 Tryz.underlying23 hie hze hsi hby hzc (by decide) v1 (0 + way.length) ([] ++ way.map (Value.int .i32)) rfl (hown1.alloc _) (some ⟨w3.heap.size, 0, none⟩) 1 1 [.int .i32 d] rfl rfl (cells_one _ _ _) (ints_one .i32 [d]) ?ha ?hb ?hc ?_); (case ha => exact HLEN.out.1); (case hb => exact HLEN.out.2); (case hc => exact Nat.le_trans HB3.out.size (Nat.le_trans hgrow1.size (by simp))); intro v2 w4 hown2 hgrow2 hat2; clear hat2))
      obtain ⟨way', hw'⟩ : ∃ way', way' = way ++ [d] := ⟨_, rfl⟩
      have hown3 : w4.ownsRow w2.heap.size 21 1 v2 way'.length (way'.map (Value.int .i32)) := by rw [hw']; simpa using hown2
      have HS4 : Az (Up w2 w4) := ⟨by
       have g1 : Up w2 w3 := Below.grown (up_refl _) hgrow1 (Nat.le_refl _) (fun k hk => by cases hk)
       have g2 : Up w2 (w3.alloc (.cells #[.int .i32 d] 21)) := up_alloc g1 _
       exact Below.grown g2 hgrow2 g2.size (fun k hk => (hown1.lt k hk).1)⟩
      have HLT : Az (∀ k, v2.ownBlock = some k → w2.heap.size ≤ k ∧ k < w4.heap.size) := ⟨fun k hk => hown3.lt k hk⟩
      obtain ⟨Ad, cd, hAd, hdn, hcd⟩ := own_ints hown3
      subst hAd
      have HDN := Az.mk hdn
      have HW' := Az.mk hw'
      have HXC : Az (Ints .i32 w4 Ax X) := ⟨by
       obtain ⟨A2, c2, h1, h2, _⟩ := own_ints HXO.out
       simp only [Value.slice.injEq] at h1
       obtain ⟨rfl, _⟩ := h1
       exact h2.up HS4.out⟩
      have HAX : Az (∀ ad, Ax = some ad → w.heap.size ≤ ad.block ∧ ad.block < w4.heap.size) := ⟨fun ad h => by
       subst h
       have := HXO.out.lt ad.block rfl
       exact ⟨this.1, Nat.lt_of_lt_of_le this.2 HS4.out.size⟩⟩
      have HAD : Az (∀ ad, Ad = some ad → w2.heap.size ≤ ad.block ∧ ad.block < w4.heap.size) := ⟨fun ad h => by subst h; exact HLT.out ad.block rfl⟩
      have HUP : Az (Up w w4) := ⟨up_trans HB2.out HS4.out⟩
      have HVO : Az (∀ k, vo.ownBlock = some k → k < w.heap.size) := ⟨fun k hk => (HOWN.out.lt k hk).2⟩
      have HR0 : Az (X.foldlM (fun o t => walkF T fuel t way' o) out = r) := ⟨by
       rw [hw', ← HX.out, ← walkF_step HO.out HNM.out]; exact HRES.out⟩
      have HWL : Az (way'.length + fuel = 16) := ⟨by rw [hw']; have := HFU.out; simp; omega⟩
      clear hown1 hown2 hgrow1 hgrow2 hown3 hw' hdn hcd
      go_loopg [3, 13] X.length (fun k v3 v13 w' => ∃ i : Nat, v13 = .int .i64 i ∧ Az (i + k = X.length) ∧ ∃ o, Az (o.length ≤ 32 ∧ (X.drop i).foldlM (fun o t => walkF T fuel t way' o) o = r ∧ w'.ownsRow w0.heap.size 21 1 v3 o.length (o.map (Value.int .i32)) ∧ w4.grownBy w' vo.ownBlock ∧ AtOr w4 vo.ownBlock v3.ownBlock))
      case atStart => exact ⟨0, rfl, ⟨Nat.zero_add _⟩, out, ⟨hol, HR0.out, own_up HOWN.out HUP.out, grownBy_refl _ _, .inl rfl⟩⟩
      case round =>
       obtain ⟨i, rfl, HI, o, HQ⟩ := hrel
       have hi := HI.out
       cases gk with
       | zero =>
         have hlt : decide ((i : Int) < (X.length : Int)) = false := dFz (by omega)
         have hln : decide (i < X.length) = false := dFz (by omega)
         obtain ⟨q1, q2, q3, q4, q5⟩ := HQ.out
         rw [List.drop_of_length_le (by omega)] at q2
         have q2' : Except.ok o = r := q2
         subst q2'
         clear q1 q2 q3 q4 q5
         go_wp2
         go_ret2
         obtain ⟨q1, q2, q3, q4, q5⟩ := HQ.out
         exact ⟨_, rfl, q3, grownBy_up HUP.out q4, AtOr.trans (.inl rfl) q5 HUP.out.size, q1⟩
       | succ k =>
         have hlt : decide ((i : Int) < (X.length : Int)) = true := dTz (by omega)
         have hln : decide (i < X.length) = true := dTz (by omega)
         have p1 : 0 ≤ (i : Int) := by omega
         have p2 : (i : Int) < (X.length : Int) := by omega
         obtain ⟨q1, q2, q3, q4, q5⟩ := HQ.out
         have hne : ∀ k, w.heap.size ≤ k → vo.ownBlock ≠ some k := fun k hk e => by have := HVO.out k e; omega
         have hXc := cells_grown HXC.out q4 (fun ad h => hne _ (HAX.out ad h).1)
         have hDc := cells_grown HDN.out q4 (fun ad h => hne _ (Nat.le_trans HB2.out.size (HAD.out ad h).1))
         obtain ⟨ad, hA, hcell⟩ := Ints.at_ hXc i p1 p2
         rw [Int.toNat_natCast] at hcell
         have hrng := HXR.out (rd X (i : Int)) (by rw [rd_get X i (by omega)]; exact List.getElem_mem _)
         have hcall := HIH.out fuel rfl (rd X (i : Int)) way' o Ad cd u3 wr hrng.1 hrng.2 (HB.out.trans (below_grownBy (grownBy_up HUP.out q4) HB.out.size (fun k hk => (HOWN.out.lt k hk).1))) HWL.out hDc (fun ad h e => by
          rcases q5 with h5 | ⟨k, h5, h6⟩
          ·rw [h5] at e
           exact hne _ (Nat.le_trans HB2.out.size (HAD.out ad h).1) e
          ·rw [h5] at e
           cases e
           have := (HAD.out ad h).2
           omega) q1 q3
         rw [fold_drop _ X i o (by omega), ← rd_get X i (by omega)] at q2
         have HQ4 := Az.mk q4
         have HQ5 := Az.mk q5
         subst hA
         cases hres : walkF T fuel (rd X (i : Int)) way' o with
         | error n =>
           rw [hres] at q2 hcall
           have q2' : Except.error n = r := q2
           subst q2'
           have HC := Az.mk hcall
           have HNE : Az (n ≠ 0) := ⟨walkF_err hres⟩
           clear hcall q1 q2 q3 q4 q5 hXc hDc hres hne hrng
           have hn : n ≠ 0 := HNE.out
           have t4 : (n == 0) = false := bqf hn
           have t5 : (n != 0) = true := bne_iff_ne.mpr hn
           have HN := Az.mk hn
           clear hn
           go_wp2_with (first | (go_at_call 131; (with_reducible refine (HC.out).mono ?_); rintro e w5 ⟨rfl, hg5, hn5⟩))
           go_ret2
           exact ⟨rfl, grownBy_step (grownBy_up HUP.out HQ4.out) hg5 (AtOr.trans (.inl rfl) HQ5.out HUP.out.size), HN.out⟩
         | ok l =>
           rw [hres] at q2 hcall
           have q2' : (X.drop (i + 1)).foldlM (fun o t => walkF T fuel t way' o) l = r := q2
           have HC := Az.mk hcall
           have HQ2 := Az.mk q2'
           clear hcall q1 q2 q2' q3 q4 q5 hXc hDc hres hne hrng
           go_wp2_with (first | (go_at_call 131; (with_reducible refine (HC.out).mono ?_); rintro e w5 ⟨v5, rfl, hown5, hg5, hat5, hl5⟩))
           go_roundg k
           case measure => have := HI.out; omega
           case rel => exact ⟨i + 1, rfl, ⟨by have := HI.out; omega⟩, l, ⟨hl5, HQ2.out, hown5, grownBy_step HQ4.out hg5 HQ5.out, AtOr.trans HQ5.out hat5 HQ4.out.size⟩⟩
theorem Rwalk_calls (w0 : World) (A : Option Addr) (c : Nat) (T : List Rec) (hT : Table w0 A T) (hR : ∀ x ∈ T, Right x) (hW : ∀ x ∈ T, x.Wf) (hl : T.length ≤ 4096) : ∀ fuel, RWalkC w0 A c T fuel := by
 have step : ∀ fuel, (∀ m, fuel = m + 1 → RWalkC w0 A c T m) → RWalkC w0 A c T fuel := by
  intro fuel IH d way out Aw cw vo w hd1 hd2 hB hfu hway hap hol hown
  by_cases ho : openF T d = []
  ·exact Rwalk_leaf w0 A c T hT hR hW hl fuel d way out Aw cw vo w hd1 hd2 hB hol hown ho
  ·exact Rwalk_node w0 A c T hT hR hW hl fuel IH d way out Aw cw vo w hd1 hd2 hB hfu hway hap hol hown ho
 intro fuel
 induction fuel with
 | zero => exact step 0 (fun m h => by cases h)
 | succ m ih => exact step (m + 1) (fun k h => by cases h; exact ih)
def RetFull (r : Except Int (List Int)) (w : World) (e : Ending) (w' : World) : Prop :=
 match r with
 | .ok l => ∃ v, e = .returned (.tuple #[v, .int .i64 0]) ∧ w'.ownsRow w.heap.size 21 1 v l.length (l.map (Value.int .i32)) ∧ Up w w' ∧ l.length ≤ 32
 | .error n => e = .returned (.tuple #[nilS, .int .i64 n]) ∧ Up w w' ∧ n ≠ 0
theorem RFull_calls (A : Option Addr) (c : Nat) (T : List Rec) (d : Int) (w : World) (hT : Table w A T) (hR : ∀ x ∈ T, Right x) (hW : ∀ x ∈ T, x.Wf) (hl : T.length ≤ 4096) (hd1 : -2147483648 ≤ d) (hd2 : d ≤ 2147483647) :
 Calls Tryz.prog 81 #[.slice A T.length c, .int .i32 d] w (RetFull (fullF T d) w) := by
 have hc : Calls Tryz.prog 131 #[.slice A T.length c, .int .i32 d, .slice none 0 0, .slice none 0 0] w (RetWalk (fullF T d) w.heap.size nilS w) := Rwalk_calls w A c T hT hR hW hl 16 d [] [] none 0 nilS w hd1 hd2 (Below.refl _ _) rfl (Cells.nil _ _) (fun ad h => by cases h) (by decide) (World.ownsRow_nil _ _ _ _)
 have HC := Az.mk hc
 clear hc hT hR hW
 cases hr : fullF T d with
 | error n =>
   rw [hr] at HC
   clear hr
   go_enter Tryz.func81, Tryz.ntmps81
   go_wp2_with (first | (go_at_call 131; (with_reducible refine (HC.out).mono ?_); rintro e w5 ⟨rfl, hg5, hn5⟩))
   go_ret2
   exact ⟨rfl, below_grownBy hg5 (Nat.le_refl _) (fun k hk => by cases hk), hn5⟩
 | ok l =>
   rw [hr] at HC
   clear hr
   go_enter Tryz.func81, Tryz.ntmps81
   go_wp2_with (first | (go_at_call 131; (with_reducible refine (HC.out).mono ?_); rintro e w5 ⟨v5, rfl, hown5, hg5, hat5, hl5⟩))
   go_ret2
   exact ⟨_, rfl, hown5, below_grownBy hg5 (Nat.le_refl _) (fun k hk => by cases hk), hl5⟩
end Go.Proofs.YtnohcnneflogjaaGreat.M
