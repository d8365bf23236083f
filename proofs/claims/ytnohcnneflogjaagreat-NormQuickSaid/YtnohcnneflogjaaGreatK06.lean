/- Keys of maps that are structs or arrays: when they read. -/
import Derived.Test.YtnohcnneflogjaaGreatK05
import Derived.DeepKeys4
set_option maxHeartbeats 8000000
set_option maxRecDepth 100000
set_option linter.unusedVariables false
set_option linter.unusedSimpArgs false
namespace Go.Proofs.YtnohcnneflogjaaGreat.M
open Go.RowKit Go.WideMaps
theorem keyOk_lits {P : Program} {k : TypeId} {v : Value} {ls : List Lit} (hw : (match P.underlying k with | some (.array _ _) | some (.struct _) => true | _ => false) = true)
 (hk : P.keyType k = true) (hf : v.formed P k = true) (hl : P.keyLits (P.types.size + 1) k v.cells.toList = some ls) : KeyOk P k v := by
 unfold KeyOk keyOf
 cases hu : P.underlying k with
 | none => rw [hu] at hw; cases hw
 | some d =>
   rw [hu] at hw
   cases d <;> first | cases hw; done | skip
   all_goals
    rw [if_pos (by rw [hk, hf]; rfl), hl]
    exact ⟨_, rfl⟩
theorem lits_leaf {P : Program} {t : TypeId} {q : IntKind} {a : Int} (d : Nat) (ht : P.underlying t = some (.int q)) (hw : (Lit.int q a).wf = true) : P.keyLits (d + 1) t [.int q a] = some [.int q a] := by
 unfold Program.keyLits
 rw [ht]
 simp [hw]
theorem laidOut : laidOutB Tryz.prog = true := by kernel_rfl
theorem i32_wf {a : Int} (h0 : -2147483648 ≤ a) (h1 : a ≤ 2147483647) : (Lit.int .i32 a).wf = true := by
 simp only [Lit.wf, Bool.and_eq_true, decide_eq_true_eq]
 show (-2147483648 : Int) ≤ a ∧ a ≤ 2147483647
 omega
theorem types_succ : ∃ m, Tryz.prog.types.size = m + 1 := ⟨Tryz.prog.types.size - 1, by kernel_rfl⟩
theorem keyed_pair : Go.Maps.Keyed Tryz.prog 172 := Go.Maps.Keyed.of_law (deep_law_laid laidOut (m := 2) (by omega) (of_decide_eq_true (by kernel_rfl)) (by kernel_rfl) (by kernel_rfl))
def pairV (a b : Int) : Value := .agg #[.int .i32 a, .int .i32 b]
theorem pairV_inj {a b c d : Int} : pairV a b = pairV c d ↔ a = c ∧ b = d := by
 unfold pairV
 constructor
 ·intro h
  injection h with h
  have := congrArg Array.toList h
  simp at this
  exact this
 ·rintro ⟨rfl, rfl⟩
  rfl
theorem key_pair {a b : Int} (ha : (Lit.int .i32 a).wf = true) (hb : (Lit.int .i32 b).wf = true) : KeyOk Tryz.prog 172 (pairV a b) := by
 have hu := Tryz.underlying172
 have hc : Tryz.prog.cellsOf 172 = 2 := by kernel_rfl
 have hc1 : Tryz.prog.cellsOf 21 = 1 := by kernel_rfl
 obtain ⟨m, hm⟩ := types_succ
 have h1 := lits_leaf (P := Tryz.prog) m Tryz.underlying21 ha
 have h2 := lits_leaf (P := Tryz.prog) m Tryz.underlying21 hb
 refine keyOk_lits (ls := [.int .i32 a, .int .i32 b]) (by kernel_rfl) (by kernel_rfl) ?_ ?_
 ·simp [pairV, Value.formed, hu, hc]
 ·unfold Program.keyLits
  rw [hu, hm]
  simp [pairV, Value.cells, hc, hc1, h1, h2, List.mapM_cons]
end Go.Proofs.YtnohcnneflogjaaGreat.M
namespace Go.Proofs.YtnohcnneflogjaaGreat.M
open Go.RowKit
theorem max_two_int (ats : Array TypeId) (ty : TypeId) (k k' : IntKind) (x y : Int) : Builtin.max_ ats ty #[.int k x, .int k' y] = pure (.int k (max x y)) := by
 simp only [Builtin.max_, List.foldlM_cons, List.foldlM_nil]
 show (Builtin.max2 (.int k x) (.int k' y) >>= fun s => pure s) = _
 simp only [Builtin.max2, gt_iff_lt]
 have : (if x < y then y else x) = max x y := by omega
 rw [this]
 rfl
theorem min_two_int (ats : Array TypeId) (ty : TypeId) (k k' : IntKind) (x y : Int) : Builtin.min_ ats ty #[.int k x, .int k' y] = pure (.int k (min x y)) := by
 simp only [Builtin.min_, List.foldlM_cons, List.foldlM_nil]
 show (Builtin.min2 (.int k x) (.int k' y) >>= fun s => pure s) = _
 simp only [Builtin.min2]
 have : (if y < x then y else x) = min x y := by omega
 rw [this]
 rfl
attribute [local go_sem] max_two_int min_two_int
theorem first_eqs (x : Rec) (L : Int) (p1 : 0 ≤ x.lo) (p2 : x.lo ≤ L) (p3 : L ≤ 1114111) (p4 : 1 ≤ x.n) (p5 : x.n ≤ 64) :
 IntKind.i64.wrap (L - x.lo) = L - x.lo ∧ IntKind.i64.wrap (L - x.lo + x.n) = L - x.lo + x.n ∧ IntKind.i64.wrap (L - x.lo + x.n - 1) = L - x.lo + x.n - 1 ∧
 (L - x.lo + x.n - 1).tdiv x.n = (L - x.lo + x.n - 1) / x.n ∧ IntKind.i64.wrap ((L - x.lo + x.n - 1) / x.n) = (L - x.lo + x.n - 1) / x.n ∧
 IntKind.i64.wrap ((L - x.lo + x.n - 1) / x.n * x.n) = (L - x.lo + x.n - 1) / x.n * x.n ∧ IntKind.i64.wrap (x.lo + (L - x.lo + x.n - 1) / x.n * x.n) = x.lo + (L - x.lo + x.n - 1) / x.n * x.n ∧
 0 ≤ x.lo + (L - x.lo + x.n - 1) / x.n * x.n ∧ x.lo + (L - x.lo + x.n - 1) / x.n * x.n ≤ 1114175 := by
 have h0 : 0 ≤ L - x.lo + x.n - 1 := by omega
 have h1 : 0 ≤ (L - x.lo + x.n - 1) / x.n := Int.ediv_nonneg h0 (by omega)
 have h2 : (L - x.lo + x.n - 1) / x.n * x.n ≤ L - x.lo + x.n - 1 := Int.ediv_mul_le _ (by omega)
 have h3 : (L - x.lo + x.n - 1) / x.n ≤ L - x.lo + x.n - 1 := Int.ediv_le_self _ h0
 have h4 : 0 ≤ (L - x.lo + x.n - 1) / x.n * x.n := Int.mul_nonneg h1 (by omega)
 have h5 : (L - x.lo + x.n - 1).tdiv x.n = (L - x.lo + x.n - 1) / x.n := Int.tdiv_eq_ediv_of_nonneg h0
 generalize (L - x.lo + x.n - 1) / x.n * x.n = m at *
 generalize (L - x.lo + x.n - 1) / x.n = q at *
 simp only [IntKind.wrap_i64]
 refine ⟨?_, ?_, ?_, h5, ?_, ?_, ?_, ?_, ?_⟩ <;> omega
theorem meet_i (x y : Rec) (A B : Option Addr) (c d : Nat) (r : Bool) (w : World) (hx : Right x) (hy : Right y) (kx : x.kind ≠ 15) (ky : y.kind ≠ 15) (hk : x.kind = 4) (h : meetB x y = r) :
 Calls Tryz.prog 183 #[recV x A c, recV y B d] w fun e w' => e = .returned (.bool r) ∧ Up w w' := by
 have hu96 := Tryz.underlying113
 have e1 : (x.kind == 4) = true := beq_iff_eq.mpr hk
 have e2 : (x.kind != 4) = false := by rw [bne, e1]; rfl
 have lx := hx.span kx
 have ly := hy.span ky
 have sx := hx.shift hk
 have hst : stepI x = x.n := if_pos hk
 have p1 : 0 ≤ x.lo := lx.1
 have p3 : 1 ≤ x.n := sx.1
 have p4 : x.n ≤ 64 := sx.2.1
 have p5 : (x.n == 0) = false := bqf (by omega)
 by_cases hempty : min x.hi y.hi < max x.lo y.lo
 ·have m1 : decide (min x.hi y.hi < max x.lo y.lo) = true := dTz hempty
  have m2 : decide (max x.lo y.lo ≤ min x.hi y.hi) = false := dFz (by omega)
  rw [meet_empty hx hy hempty] at h
  subst h
  clear hk hempty lx ly sx hst hx hy kx ky
  go_enter Tryz.func183, Tryz.ntmps183
  go_wp2
  go_quiet (fail)
  go_wp2
  go_ret
  exact ⟨rfl, up_drewN (up_alloc (up_alloc (up_refl _) _) _) _⟩
 ·have m1 : decide (min x.hi y.hi < max x.lo y.lo) = false := dFz hempty
  have q := first_eqs x (max x.lo y.lo) (by omega) (by omega) (by omega) (by omega) (by omega)
  obtain ⟨q1, q2, q3, q4, q5, q6, q7, q8, q9⟩ := q
  have hs := search_meets hx hy
  rw [h, hst] at hs
  have hfc : firstC x (max x.lo y.lo) = x.lo + (max x.lo y.lo - x.lo + x.n - 1) / x.n * x.n := by unfold firstC; rw [hst]
  rw [hfc] at hs
  have HS := Az.mk hs
  have HY := Az.mk hy
  have HB8 := Az.mk q8
  have HB9 := Az.mk q9
  have hH : min x.hi y.hi ≤ 1114111 := by omega
  have HK := Az.mk ky
  have hW0 : ∃ W0, W0 = (w.alloc (recO x A c)).alloc (recO y B d) := ⟨_, rfl⟩
  have RX : RecBox ((w.alloc (recO x A c)).alloc (recO y B d)) w.heap.size x A c := (recBox_new w x A c).keep (up_alloc (up_refl _) _)
  have RY : RecBox ((w.alloc (recO x A c)).alloc (recO y B d)) (w.heap.size + 1) y B d := by
   have := recBox_new (w.alloc (recO x A c)) y B d
   rwa [show (w.alloc (recO x A c)).heap.size = w.heap.size + 1 by simp] at this
  have HW : Up w ((w.alloc (recO x A c)).alloc (recO y B d)) := up_alloc (up_alloc (up_refl _) _) _
  have HWA := Az.mk HW
  have RXA := Az.mk RX
  have RYA := Az.mk RY
  clear hk hempty lx ly sx hst hx hy kx ky h hs hfc hW0 HW RX RY
  go_enter Tryz.func183, Tryz.ntmps183
  go_wp2
  go_quiet (fail)
  go_wp2
  go_quiet (fail)
  clear q1 q2 q3 q4 q5 q6 q7 q8 q9
  go_wp2
  go_loopg [7, 51] 64 (fun k v7 v51 w' => ∃ cc : Int, v7 = .int .i64 cc ∧ (∃ i : Nat, v51 = .int .i64 i ∧ Az (i + k = 64)) ∧ Az (meetL y x.n (min x.hi y.hi) k cc = r ∧ 0 ≤ cc ∧ cc ≤ 1114175) ∧ Az (Up ((w.alloc (recO x A c)).alloc (recO y B d)) w'))
  case atStart => exact ⟨_, rfl, ⟨0, rfl, ⟨rfl⟩⟩, ⟨HS.out, HB8.out, HB9.out⟩, ⟨up_drewN (up_drewN (up_refl _) _) _⟩⟩
  case round =>
   obtain ⟨cc, rfl, ⟨i, rfl, HI⟩, HM, HB⟩ := hrel
   have hi := HI.out
   obtain ⟨kx0, kx1, kx2, kx3, kx4, kx5, kx6, kx7⟩ := RXA.out.keep HB.out
   obtain ⟨ky0, ky1, ky2, ky3, ky4, ky5, ky6, ky7⟩ := RYA.out.keep HB.out
   obtain ⟨hm, hc0, hc1⟩ := HM.out
   cases gk with
   | zero =>
     have hlt : decide ((i : Int) < 64) = false := dFz (by omega)
     have hm' : false = r := hm
     subst hm'
     clear hm
     go_wp2
     go_ret
     exact ⟨rfl, up_trans HWA.out HB.out⟩
   | succ k =>
     have hlt : decide ((i : Int) < 64) = true := dTz (by omega)
     unfold meetL at hm
     by_cases hb1 : min x.hi y.hi < cc
     ·rw [if_pos hb1] at hm
      have n1 : decide (min x.hi y.hi < cc) = true := dTz hb1
      subst hm
      clear hb1
      go_wp2
      go_ret
      exact ⟨rfl, up_trans HWA.out HB.out⟩
     ·rw [if_neg hb1] at hm
      have n1 : decide (min x.hi y.hi < cc) = false := dFz hb1
      cases hsp : speaksB y cc with
      | true =>
        rw [hsp, if_pos rfl] at hm
        subst hm
        clear hb1
        go_wp2_with (first | (go_at_call 168; (with_reducible refine (speaks_calls y B d cc _ _ HY.out HK.out hsp).mono ?_); rintro e w1 ⟨rfl, hu1⟩))
        go_ret
        exact ⟨rfl, up_trans (up_trans HWA.out HB.out) hu1⟩
      | false =>
        rw [hsp] at hm
        have hm' : meetL y x.n (min x.hi y.hi) k (cc + x.n) = r := hm
        have HM2 := Az.mk hm'
        have hc2 : cc ≤ 1114111 := by omega
        clear hb1 hm hm'
        go_wp2_with (first | (go_at_call 168; (with_reducible refine (speaks_calls y B d cc _ _ HY.out HK.out hsp).mono ?_); rintro e w1 ⟨rfl, hu1⟩; replace kx3 := up_cell hu1 kx3))
        go_roundg k
        case measure => omega
        case rel => exact ⟨_, rfl, ⟨i + 1, rfl, ⟨by have := HI.out; omega⟩⟩, ⟨HM2.out, by omega, by omega⟩, ⟨up_trans HB.out hu1⟩⟩
theorem meet_ii (x y : Rec) (A B : Option Addr) (c d : Nat) (r : Bool) (w : World) (hx : Right x) (hy : Right y) (kx : x.kind ≠ 15) (ky : y.kind ≠ 15) (hk : x.kind = 4) (hyk : y.kind ≠ 4) (h : meetB x y = r) :
 Calls Tryz.prog 183 #[recV y B d, recV x A c] w fun e w' => e = .returned (.bool r) ∧ Up w w' := by
 have hu96 := Tryz.underlying113
 have e1 : (x.kind == 4) = true := beq_iff_eq.mpr hk
 have e2 : (x.kind != 4) = false := by rw [bne, e1]; rfl
 have e3 : (y.kind == 4) = false := bqf hyk
 have e4 : (y.kind != 4) = true := bne_iff_ne.mpr hyk
 clear hyk
 have lx := hx.span kx
 have ly := hy.span ky
 have sx := hx.shift hk
 have hst : stepI x = x.n := if_pos hk
 have p1 : 0 ≤ x.lo := lx.1
 have p3 : 1 ≤ x.n := sx.1
 have p4 : x.n ≤ 64 := sx.2.1
 have p5 : (x.n == 0) = false := bqf (by omega)
 by_cases hempty : min x.hi y.hi < max x.lo y.lo
 ·have m1 : decide (min x.hi y.hi < max x.lo y.lo) = true := dTz hempty
  have m2 : decide (max x.lo y.lo ≤ min x.hi y.hi) = false := dFz (by omega)
  rw [meet_empty hx hy hempty] at h
  subst h
  clear hk hempty lx ly sx hst hx hy kx ky
  go_enter Tryz.func183, Tryz.ntmps183
  go_wp2
  go_quiet (fail)
  go_wp2
  go_ret
  exact ⟨rfl, up_drewN (up_alloc (up_alloc (up_refl _) _) _) _⟩
 ·have m1 : decide (min x.hi y.hi < max x.lo y.lo) = false := dFz hempty
  have q := first_eqs x (max x.lo y.lo) (by omega) (by omega) (by omega) (by omega) (by omega)
  obtain ⟨q1, q2, q3, q4, q5, q6, q7, q8, q9⟩ := q
  have hs := search_meets hx hy
  rw [h, hst] at hs
  have hfc : firstC x (max x.lo y.lo) = x.lo + (max x.lo y.lo - x.lo + x.n - 1) / x.n * x.n := by unfold firstC; rw [hst]
  rw [hfc] at hs
  have HS := Az.mk hs
  have HY := Az.mk hy
  have HB8 := Az.mk q8
  have HB9 := Az.mk q9
  have hH : min x.hi y.hi ≤ 1114111 := by omega
  have HK := Az.mk ky
  have hW0 : ∃ W0, W0 = (w.alloc (recO x A c)).alloc (recO y B d) := ⟨_, rfl⟩
  have RX : RecBox ((w.alloc (recO x A c)).alloc (recO y B d)) w.heap.size x A c := (recBox_new w x A c).keep (up_alloc (up_refl _) _)
  have RY : RecBox ((w.alloc (recO x A c)).alloc (recO y B d)) (w.heap.size + 1) y B d := by
   have := recBox_new (w.alloc (recO x A c)) y B d
   rwa [show (w.alloc (recO x A c)).heap.size = w.heap.size + 1 by simp] at this
  have HW : Up w ((w.alloc (recO x A c)).alloc (recO y B d)) := up_alloc (up_alloc (up_refl _) _) _
  have HWA := Az.mk HW
  have RXA := Az.mk RX
  have RYA := Az.mk RY
  clear hk hempty lx ly sx hst hx hy kx ky h hs hfc hW0 HW RX RY
  go_enter Tryz.func183, Tryz.ntmps183
  go_wp2
  go_quiet (fail)
  go_wp2
  go_quiet (fail)
  clear q1 q2 q3 q4 q5 q6 q7 q8 q9
  go_wp2
  go_loopg [7, 51] 64 (fun k v7 v51 w' => ∃ cc : Int, v7 = .int .i64 cc ∧ (∃ i : Nat, v51 = .int .i64 i ∧ Az (i + k = 64)) ∧ Az (meetL y x.n (min x.hi y.hi) k cc = r ∧ 0 ≤ cc ∧ cc ≤ 1114175) ∧ Az (Up ((w.alloc (recO x A c)).alloc (recO y B d)) w'))
  case atStart => exact ⟨_, rfl, ⟨0, rfl, ⟨rfl⟩⟩, ⟨HS.out, HB8.out, HB9.out⟩, ⟨up_drewN (up_drewN (up_refl _) _) _⟩⟩
  case round =>
   obtain ⟨cc, rfl, ⟨i, rfl, HI⟩, HM, HB⟩ := hrel
   have hi := HI.out
   obtain ⟨kx0, kx1, kx2, kx3, kx4, kx5, kx6, kx7⟩ := RXA.out.keep HB.out
   obtain ⟨ky0, ky1, ky2, ky3, ky4, ky5, ky6, ky7⟩ := RYA.out.keep HB.out
   obtain ⟨hm, hc0, hc1⟩ := HM.out
   cases gk with
   | zero =>
     have hlt : decide ((i : Int) < 64) = false := dFz (by omega)
     have hm' : false = r := hm
     subst hm'
     clear hm
     go_wp2
     go_ret
     exact ⟨rfl, up_trans HWA.out HB.out⟩
   | succ k =>
     have hlt : decide ((i : Int) < 64) = true := dTz (by omega)
     unfold meetL at hm
     by_cases hb1 : min x.hi y.hi < cc
     ·rw [if_pos hb1] at hm
      have n1 : decide (min x.hi y.hi < cc) = true := dTz hb1
      subst hm
      clear hb1
      go_wp2
      go_ret
      exact ⟨rfl, up_trans HWA.out HB.out⟩
     ·rw [if_neg hb1] at hm
      have n1 : decide (min x.hi y.hi < cc) = false := dFz hb1
      cases hsp : speaksB y cc with
      | true =>
        rw [hsp, if_pos rfl] at hm
        subst hm
        clear hb1
        go_wp2_with (first | (go_at_call 168; (with_reducible refine (speaks_calls y B d cc _ _ HY.out HK.out hsp).mono ?_); rintro e w1 ⟨rfl, hu1⟩))
        go_ret
        exact ⟨rfl, up_trans (up_trans HWA.out HB.out) hu1⟩
      | false =>
        rw [hsp] at hm
        have hm' : meetL y x.n (min x.hi y.hi) k (cc + x.n) = r := hm
        have HM2 := Az.mk hm'
        have hc2 : cc ≤ 1114111 := by omega
        clear hb1 hm hm'
        go_wp2_with (first | (go_at_call 168; (with_reducible refine (speaks_calls y B d cc _ _ HY.out HK.out hsp).mono ?_); rintro e w1 ⟨rfl, hu1⟩; replace kx3 := up_cell hu1 kx3))
        go_roundg k
        case measure => omega
        case rel => exact ⟨_, rfl, ⟨i + 1, rfl, ⟨by have := HI.out; omega⟩⟩, ⟨HM2.out, by omega, by omega⟩, ⟨up_trans HB.out hu1⟩⟩
theorem meet_iii (x y : Rec) (A B : Option Addr) (c d : Nat) (r : Bool) (w : World) (hx : Right x) (hy : Right y) (hkx : x.kind ≠ 4) (hky : y.kind ≠ 4) (h : meetB x y = r) :
 Calls Tryz.prog 183 #[recV x A c, recV y B d] w fun e w' => e = .returned (.bool r) ∧ Up w w' := by
 have hu96 := Tryz.underlying113
 have e1 : (x.kind == 4) = false := bqf hkx
 have e2 : (x.kind != 4) = true := bne_iff_ne.mpr hkx
 have e3 : (y.kind == 4) = false := bqf hky
 have e4 : (y.kind != 4) = true := bne_iff_ne.mpr hky
 rw [meet_plain hx hy hkx hky] at h
 have h' : decide (max y.lo x.lo ≤ min y.hi x.hi) = r := by
  rw [← h, decide_eq_decide]
  omega
 clear hkx hky hx hy h
 go_enter Tryz.func183, Tryz.ntmps183
 go_wp2
 go_quiet (fail)
 go_wp2
 go_ret
 exact ⟨rfl, up_drewN (up_alloc (up_alloc (up_refl _) _) _) _⟩
theorem meet_calls (x y : Rec) (A B : Option Addr) (c d : Nat) (r : Bool) (w : World) (hx : Right x) (hy : Right y) (kx : x.kind ≠ 15) (ky : y.kind ≠ 15) (h : meetB x y = r) :
 Calls Tryz.prog 183 #[recV x A c, recV y B d] w fun e w' => e = .returned (.bool r) ∧ Up w w' := by
 by_cases hkx : x.kind = 4
 ·exact meet_i x y A B c d r w hx hy kx ky hkx h
 ·by_cases hky : y.kind = 4
  ·exact meet_ii y x B A d c r w hy hx ky kx hky hkx (by rw [meetB_comm]; exact h)
  ·exact meet_iii x y A B c d r w hx hy hkx hky h
end Go.Proofs.YtnohcnneflogjaaGreat.M
namespace Go.Proofs.YtnohcnneflogjaaGreat.M
open Go.RowKit
attribute [local go_sem] max_two_int min_two_int
theorem RFamily_same0 (a0 : Int) (r : Int) (w : World) (h : endonymref6_Family.f a0 = some r) : Calls Tryz.prog 149 #[.int .i64 a0] w fun e w' => e = .returned (.int .i64 r) ∧ w' = w := by
 have hr := (Option.some.inj h).symm
 by_cases h1 : a0 < 1
 ·rw [if_neg (by omega)] at hr
  subst hr
  have c1 : decide (a0 < 1) = true := dTz h1
  go_enter Tryz.func149, Tryz.ntmps149
  go_wp2
  go_ret
  exact ⟨rfl, rfl⟩
 ·have c1 : decide (a0 < 1) = false := dFz h1
  by_cases h2 : 15 < a0
  ·rw [if_neg (by omega)] at hr
   subst hr
   have c2 : decide (15 < a0) = true := dTz h2
   go_enter Tryz.func149, Tryz.ntmps149
   go_wp2
   go_ret
   exact ⟨rfl, rfl⟩
  ·rw [if_pos (by omega)] at hr
   have c2 : decide (15 < a0) = false := dFz h2
   have hix : ∀ W : World, (Instr.index 198 (.agg agg163) (.int .i64 a0)).run Tryz.prog W = .ok (.int .i64 r) W := by
    have hc : a0 = 1 ∨ a0 = 2 ∨ a0 = 3 ∨ a0 = 4 ∨ a0 = 5 ∨ a0 = 6 ∨ a0 = 7 ∨ a0 = 8 ∨ a0 = 9 ∨ a0 = 10 ∨ a0 = 11 ∨ a0 = 12 ∨ a0 = 13 ∨ a0 = 14 ∨ a0 = 15 := by omega
    subst hr
    clear c1 c2 h1 h2 h
    intro W
    rcases hc with rfl | rfl | rfl | rfl | rfl | rfl | rfl | rfl | rfl | rfl | rfl | rfl | rfl | rfl | rfl <;> kernel_rfl
   unfold agg163 at hix
   clear hr h h1 h2
   go_enter Tryz.func149, Tryz.ntmps149
   go_wp2
   go_ret
   exact ⟨rfl, rfl⟩
theorem RFamily_same (k : Int) (w : World) : Calls Tryz.prog 149 #[.int .i64 k] w fun e w' => e = .returned (.int .i64 (fam k)) ∧ w' = w := RFamily_same0 k _ w rfl
theorem first_eqs' (a : Rec) (s L : Int) (p1 : 0 ≤ a.lo) (p2 : a.lo ≤ L) (p3 : L ≤ 1114111) (p4 : 1 ≤ s) (p5 : s ≤ 64) :
 IntKind.i64.wrap (L - a.lo) = L - a.lo ∧ IntKind.i64.wrap (L - a.lo + s) = L - a.lo + s ∧ IntKind.i64.wrap (L - a.lo + s - 1) = L - a.lo + s - 1 ∧
 (L - a.lo + s - 1).tdiv s = (L - a.lo + s - 1) / s ∧ IntKind.i64.wrap ((L - a.lo + s - 1) / s) = (L - a.lo + s - 1) / s ∧
 IntKind.i64.wrap ((L - a.lo + s - 1) / s * s) = (L - a.lo + s - 1) / s * s ∧ IntKind.i64.wrap (a.lo + (L - a.lo + s - 1) / s * s) = a.lo + (L - a.lo + s - 1) / s * s ∧
 0 ≤ a.lo + (L - a.lo + s - 1) / s * s ∧ a.lo + (L - a.lo + s - 1) / s * s ≤ 1114175 := first_eqs { a with n := s } L p1 p2 p3 p4 p5
theorem clash_apart (x y : Rec) (A B : Option Addr) (c d : Nat) (w : World) (hf : fam x.kind ≠ fam y.kind) :
 Calls Tryz.prog 148 #[recV x A c, recV y B d] w fun e w' => e = .returned (.bool false) ∧ Up w w' := by
 have hu96 := Tryz.underlying113
 have e1 : (fam x.kind == fam y.kind) = false := bqf hf
 have e2 : (fam x.kind != fam y.kind) = true := bne_iff_ne.mpr hf
 clear hf
 go_enter Tryz.func148, Tryz.ntmps148
 go_wp2
 go_quiet ((go_at_call 149; exact Calls.quiet_of_same (RFamily_same _ _)))
 go_wp2
 go_ret
 exact ⟨rfl, up_drewN (up_alloc (up_alloc (up_refl _) _) _) _⟩
theorem clash_mix (x y : Rec) (A B : Option Addr) (c d : Nat) (r : Bool) (w : World) (hf : fam x.kind = fam y.kind) (hk : x.kind = 15)
 (h : (((x.name.toList == y.name.toList) && (x.other.toList == y.other.toList)) || ((x.name.toList == y.other.toList) && (x.other.toList == y.name.toList))) = r) :
 Calls Tryz.prog 148 #[recV x A c, recV y B d] w fun e w' => e = .returned (.bool r) ∧ Up w w' := by
 have hu96 := Tryz.underlying113
 have e1 : (fam x.kind == fam y.kind) = true := beq_iff_eq.mpr hf
 have e2 : (fam x.kind != fam y.kind) = false := by rw [bne, e1]; rfl
 have e3 : (x.kind == 15) = true := beq_iff_eq.mpr hk
 clear hf hk
 cases s1 : (x.name.toList == y.name.toList) <;> cases s2 : (x.other.toList == y.other.toList) <;> cases s3 : (x.name.toList == y.other.toList) <;> cases s4 : (x.other.toList == y.name.toList) <;> rw [s1, s2, s3, s4] at h <;> subst h <;>
  (go_enter Tryz.func148, Tryz.ntmps148
   go_wp2
   go_quiet ((go_at_call 149; exact Calls.quiet_of_same (RFamily_same _ _)))
   go_wp2
   go_ret
   exact ⟨rfl, up_drewN (up_alloc (up_alloc (up_refl _) _) _) _⟩)
theorem clash_meet (x y : Rec) (A B : Option Addr) (c d : Nat) (r : Bool) (w : World) (hx : Right x) (hy : Right y) (hf : fam x.kind = fam y.kind) (kx : x.kind ≠ 15) (ky : y.kind ≠ 15) (h : meetB x y = r) :
 Calls Tryz.prog 148 #[recV x A c, recV y B d] w fun e w' => e = .returned (.bool r) ∧ Up w w' := by
 have hu96 := Tryz.underlying113
 have e1 : (fam x.kind == fam y.kind) = true := beq_iff_eq.mpr hf
 have e2 : (fam x.kind != fam y.kind) = false := by rw [bne, e1]; rfl
 have e3 : (x.kind == 15) = false := bqf kx
 have lx := hx.span kx
 have ly := hy.span ky
 have sx := hx.step
 have p1 : 0 ≤ x.lo := lx.1
 have hs := search_meets hx hy
 have hfc : firstC x (max x.lo y.lo) = x.lo + (max x.lo y.lo - x.lo + stepI x - 1) / stepI x * stepI x := rfl
 rw [h, hfc] at hs
 have HC := Az.mk (fun W => step_calls x A c W hx)
 generalize stepI x = s at *
 have p3 : 1 ≤ s := sx.1
 have p4 : s ≤ 64 := sx.2
 have p5 : (s == 0) = false := bqf (by omega)
 have q := first_eqs' x s (max x.lo y.lo) (by omega) (by omega) (by omega) (by omega) (by omega)
 obtain ⟨q1, q2, q3, q4, q5, q6, q7, q8, q9⟩ := q
 have hL : max x.lo y.lo ≤ x.lo → x.lo + (max x.lo y.lo - x.lo + s - 1) / s * s = x.lo := by
  intro hle
  have : max x.lo y.lo - x.lo + s - 1 = s - 1 := by omega
  rw [this, Int.ediv_eq_zero_of_lt (by omega) (by omega)]
  simp
 have HS := Az.mk hs
 have HL := Az.mk hL
 have HY := Az.mk hy
 have HB8 := Az.mk q8
 have HB9 := Az.mk q9
 have hH : min x.hi y.hi ≤ 1114111 := by omega
 have hl1 : x.lo ≤ 1114111 := by omega
 have HK := Az.mk ky
 have RXA : Az (RecBox ((w.alloc (recO x A c)).alloc (recO y B d)) w.heap.size x A c) := ⟨(recBox_new w x A c).keep (up_alloc (up_refl _) _)⟩
 have RYA : Az (RecBox ((w.alloc (recO x A c)).alloc (recO y B d)) (w.heap.size + 1) y B d) := ⟨by
  have := recBox_new (w.alloc (recO x A c)) y B d
  rwa [show (w.alloc (recO x A c)).heap.size = w.heap.size + 1 by simp] at this⟩
 have HWA : Az (Up w ((w.alloc (recO x A c)).alloc (recO y B d))) := ⟨up_alloc (up_alloc (up_refl _) _) _⟩
 by_cases hgt : x.lo < max x.lo y.lo
 all_goals
  first
  | have m1 : decide (x.lo < max x.lo y.lo) = true := dTz hgt
  | have m1 : decide (x.lo < max x.lo y.lo) = false := dFz hgt
  have HG := Az.mk hgt
  clear hx hy hf kx ky h hs hfc hL sx lx ly hgt
  go_enter Tryz.func148, Tryz.ntmps148
  go_wp2
  go_quiet ((go_at_call 149; exact Calls.quiet_of_same (RFamily_same _ _)))
  go_wp2
  go_quiet (fail)
  go_wp2_with (first | (go_at_call 180; refine (HC.out _).mono ?_; rintro e w1 ⟨rfl, hu1⟩; replace hu1 : Up ((w.alloc (recO x A c)).alloc (recO y B d)) w1 := up_trans (up_drewN (up_refl _) _) hu1; obtain ⟨kx0, kx1, kx2, kx3, kx4, kx5, kx6, kx7⟩ := RXA.out.keep hu1; obtain ⟨ky0, ky1, ky2, ky3, ky4, ky5, ky6, ky7⟩ := RYA.out.keep hu1; have HU1 := Az.mk hu1))
  try go_quiet (fail)
  clear q1 q2 q3 q4 q5 q6 q7 q8 q9
  go_wp2
  go_loopg [8, 9] 64 (fun k v8 v9 w' => ∃ cc : Int, v8 = .int .i64 cc ∧ (∃ i : Nat, v9 = .int .i64 i ∧ Az (i + k = 64)) ∧ Az (meetL y s (min x.hi y.hi) k cc = r ∧ 0 ≤ cc ∧ cc ≤ 1114175) ∧ Az (Up ((w.alloc (recO x A c)).alloc (recO y B d)) w'))
  case atStart =>
   first
   | exact ⟨_, rfl, ⟨0, rfl, ⟨rfl⟩⟩, ⟨HS.out, HB8.out, HB9.out⟩, ⟨up_drewN HU1.out _⟩⟩
   | exact ⟨_, rfl, ⟨0, rfl, ⟨rfl⟩⟩, ⟨by have := HS.out; rwa [HL.out (by have := HG.out; omega)] at this, by omega, by omega⟩, HU1⟩
  case round =>
   clear kx0 kx1 kx2 kx3 kx4 kx5 kx6 kx7 ky0 ky1 ky2 ky3 ky4 ky5 ky6 ky7
   obtain ⟨cc, rfl, ⟨i, rfl, HI⟩, HM, HB⟩ := hrel
   have hi := HI.out
   obtain ⟨ky0, ky1, ky2, ky3, ky4, ky5, ky6, ky7⟩ := RYA.out.keep HB.out
   obtain ⟨hm, hc0, hc1⟩ := HM.out
   cases gk with
   | zero =>
     have hlt : decide ((i : Int) < 64) = false := dFz (by omega)
     have hm' : false = r := hm
     subst hm'
     clear hm
     go_wp2
     go_ret
     exact ⟨rfl, up_trans HWA.out HB.out⟩
   | succ k =>
     have hlt : decide ((i : Int) < 64) = true := dTz (by omega)
     unfold meetL at hm
     by_cases hb1 : min x.hi y.hi < cc
     ·rw [if_pos hb1] at hm
      have n1 : decide (cc ≤ min x.hi y.hi) = false := dFz (by omega)
      subst hm
      clear hb1
      go_wp2
      go_ret
      exact ⟨rfl, up_trans HWA.out HB.out⟩
     ·rw [if_neg hb1] at hm
      have n1 : decide (cc ≤ min x.hi y.hi) = true := dTz (by omega)
      cases hsp : speaksB y cc with
      | true =>
        rw [hsp, if_pos rfl] at hm
        subst hm
        clear hb1
        go_wp2_with (first | (go_at_call 172; (with_reducible refine (RSpeaks_calls y B d cc _ _ HY.out HK.out hsp).mono ?_); rintro e w2 ⟨rfl, hu2⟩))
        go_ret
        exact ⟨rfl, up_trans (up_trans HWA.out HB.out) hu2⟩
      | false =>
        rw [hsp] at hm
        have hm' : meetL y s (min x.hi y.hi) k (cc + s) = r := hm
        have HM2 := Az.mk hm'
        have hc2 : cc ≤ 1114111 := by omega
        clear hb1 hm hm'
        go_wp2_with (first | (go_at_call 172; (with_reducible refine (RSpeaks_calls y B d cc _ _ HY.out HK.out hsp).mono ?_); rintro e w2 ⟨rfl, hu2⟩))
        go_roundg k
        case measure => omega
        case rel => exact ⟨_, rfl, ⟨i + 1, rfl, ⟨by have := HI.out; omega⟩⟩, ⟨HM2.out, by omega, by omega⟩, ⟨up_trans HB.out hu2⟩⟩
theorem clash_calls (x y : Rec) (A B : Option Addr) (c d : Nat) (r : Bool) (w : World) (hx : Right x) (hy : Right y) (h : clashB x y = r) :
 Calls Tryz.prog 148 #[recV x A c, recV y B d] w fun e w' => e = .returned (.bool r) ∧ Up w w' := by
 unfold clashB at h
 by_cases hf : fam x.kind = fam y.kind
 ·rw [dTz hf, Bool.true_and] at h
  by_cases hk : x.kind = 15
  ·rw [if_pos hk] at h
   exact clash_mix x y A B c d r w hf hk h
  ·rw [if_neg hk] at h
   exact clash_meet x y A B c d r w hx hy hf hk (fun hy15 => hk ((fam_ten _).1 (by rw [hf, hy15]; rfl))) h
 ·rw [dFz hf, Bool.false_and] at h
  subst h
  exact clash_apart x y A B c d w hf
end Go.Proofs.YtnohcnneflogjaaGreat.M
