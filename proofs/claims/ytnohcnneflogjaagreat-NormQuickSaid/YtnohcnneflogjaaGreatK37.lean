/- A parameter []api.Record, opened. -/
import Derived.Test.YtnohcnneflogjaaGreatK36
import Derived.Deep.Slices
import Derived.WalkKit
import Derived.ProofKit
import Derived.OpenShut
import Derived.ShutString
import Derived.ChangeOld
import Derived.Below
import Derived.Carry
import Derived.SizedLaws
import Derived.ChangeSlices
import Derived.Test.YtnohcnneflogjaaGreatK07
set_option maxHeartbeats 8000000
set_option maxRecDepth 100000
set_option linter.unusedVariables false
set_option linter.unusedSimpArgs false
namespace Go.Proofs.YtnohcnneflogjaaGreat.M
open Go.RowKit Go.ChangeShapes Go.WideShapes
theorem weightsAll_mem {H : Type} {P : Program} {e : TypeId} : ∀ {l : List (DataW H)} {d : DataW H}, d ∈ l → ∀ n ∈ d.weights P e, n ∈ DataW.weightsAll P e l
 | d' :: r, d, hd, n, hn => by
   simp only [DataW.weightsAll, List.mem_append]
   rcases List.mem_cons.1 hd with rfl | h
   ·exact Or.inl hn
   ·exact Or.inr (weightsAll_mem h n hn)
section
variable {H : Type} {enc : TypeId × Value → H} {P : Program} {w : World} {base : Nat} {spare : Nat → Bool} {held : Bool}
theorem trod_float {t : TypeId} {k : FloatKind} {fuel : Nat} {v : Value} {x : DataW H × List MemPlace} (ht : P.underlying t = some (.float k)) (h : DataW.trod enc P w base spare held fuel t [v] = some x) :
 ∃ b, v = .float k b ∧ (Lit.float k b).wf = true := by
 cases fuel with
 | zero => simp [DataW.trod] at h
 | succ n =>
   unfold DataW.trod at h
   rw [ht] at h
   split at h <;> simp_all
theorem ints_read {t e : TypeId} {k : IntKind} {fuel : Nat} {v : Value} {x : DataW H × List MemPlace} (ht : P.underlying t = some (.slice e)) (he : P.underlying e = some (.int k)) (hc : P.cellsOf e = 1)
 (h : DataW.trod enc P w base spare held fuel t [v] = some x) (hw : ∀ n ∈ x.1.weights P t, n ≤ reachBytes) :
 ∃ (A : Option Addr) (c : Nat) (l : List Int), v = .slice A l.length c ∧ l.length ≤ c ∧ c ≤ maxLen ∧ Ints k w A l ∧ (∀ z ∈ l, (Lit.int k z).wf = true) ∧ l.length * P.bytesOf e ≤ 140737488351232 := by
 rcases open_ints ht he hc h with ⟨hcs, _⟩ | ⟨a, len, c, zs, hcs, _, hl, hm, hz, hx, hcell, hwz⟩
 ·injection hcs with hcs
  exact ⟨none, 0, [], hcs, Nat.le_refl _, Nat.zero_le _, Cells.nil _ _, fun z hz => by simp at hz, by simp⟩
 ·injection hcs with hcs
  have hlz : len ≤ zs.length := by rw [hz]; split <;> omega
  have hln : (zs.take len).length = len := by rw [List.length_take]; omega
  refine ⟨some a, c, zs.take len, by rw [hln]; exact hcs, by omega, hm, ?_, fun z hz => hwz z (List.mem_of_mem_take hz), ?_⟩
  ·intro i u hu
   rw [List.getElem?_map, List.getElem?_take] at hu
   split at hu
   ·rename_i hi
    have h1 : i < zs.length := by omega
    rw [List.getElem?_eq_getElem h1] at hu
    refine ⟨a, rfl, ?_⟩
    rw [hcell i h1, ← Option.some.inj hu]
    simp [List.getD, List.getElem?_eq_getElem h1]
   ·cases hu
  ·rw [hln]
   subst hx
   have := hw ((zs.take len).length * P.bytesOf e + (zs.drop len).length * P.bytesOf e) (by
    simp only [DataW.weights, ht]
    simp [lits, Nat.add_mul])
   rw [hln] at this
   have h3 : reachBytes ≤ 140737488351232 := by decide
   have h4 : len * P.bytesOf e ≤ reachBytes := Nat.le_trans (Nat.le_add_right _ _) this
   omega
end
section
variable {H : Type} {enc : TypeId × Value → H} {w : World} {base : Nat} {spare : Nat → Bool} {held : Bool}
theorem rec_read {fuel : Nat} {cs : List Value} {x : DataW H × List MemPlace} (h : DataW.trod enc Tryz.prog w base spare held fuel 113 cs = some x) (hw : ∀ n ∈ x.1.weights Tryz.prog 113, n ≤ reachBytes) :
 ∃ (r : Rec) (A : Option Addr) (c : Nat), cs = [.int .i64 r.kind, .int .i64 r.lo, .int .i64 r.hi, .int .i64 r.n, .slice A r.to.length c, .string r.name, .string r.other, .float .f64 r.weight] ∧ r.Wf ∧ r.to.length ≤ c ∧ Ints .i32 w A r.to := by
 obtain ⟨xs, k, rfl, rfl, hlen, hxl, hf⟩ := DataW.trod_struct Tryz.underlying113 h
 have c96 : Tryz.prog.cellsOf 113 = 8 := by kernel_rfl
 have c3 : Tryz.prog.cellsOf 3 = 1 := by kernel_rfl
 have c23 : Tryz.prog.cellsOf 23 = 1 := by kernel_rfl
 have c9 : Tryz.prog.cellsOf 9 = 1 := by kernel_rfl
 have cf : Tryz.prog.cellsOf 111 = 1 := by kernel_rfl
 have u3 : Tryz.prog.underlying 3 = some (.int .i64) := Tryz.underlying3
 have u9 : Tryz.prog.underlying 9 = some .string := Tryz.underlying9
 have u23 : Tryz.prog.underlying 23 = some (.slice 21) := Tryz.underlying23
 have u21 : Tryz.prog.underlying 21 = some (.int .i32) := by kernel_rfl
 have c21 : Tryz.prog.cellsOf 21 = 1 := by kernel_rfl
 have b21 : Tryz.prog.bytesOf 21 = 4 := by kernel_rfl
 have uf : Tryz.prog.underlying 111 = some (.float .f64) := by kernel_rfl
 rw [c96] at hlen
 have hxl' : xs.length = 8 := hxl
 match xs, hxl', cs, hlen with
 | [y0, y1, y2, y3, y4, y5, y6, y7], _, [v0, v1, v2, v3, v4, v5, v6, v7], _ =>
   have g0 := hf 0 _ rfl
   have g1 := hf 1 _ rfl
   have g2 := hf 2 _ rfl
   have g3 := hf 3 _ rfl
   have g4 := hf 4 _ rfl
   have g5 := hf 5 _ rfl
   have g6 := hf 6 _ rfl
   have g7 := hf 7 _ rfl
   simp only [c3, c23, c9, cf, List.drop, List.take, List.getElem?_cons_zero, List.getElem?_cons_succ] at g0 g1 g2 g3 g4 g5 g6 g7
   obtain ⟨n0, e0, _, w0⟩ := DataW.trod_int u3 g0
   obtain ⟨n1, e1, _, w1⟩ := DataW.trod_int u3 g1
   obtain ⟨n2, e2, _, w2⟩ := DataW.trod_int u3 g2
   obtain ⟨n3, e3, _, w3⟩ := DataW.trod_int u3 g3
   have hw4 : ∀ n ∈ y4.1.weights Tryz.prog 23, n ≤ reachBytes := fun n hn => by
    refine hw n ?_
    simp only [DataW.weights, Tryz.underlying113]
    exact DataW.weights_mem_each (j := 4) rfl rfl n hn
   obtain ⟨A, c, l, e4, hlc, _, hI, hwl, hb⟩ := ints_read u23 u21 c21 g4 hw4
   obtain ⟨s5, e5, _, w5⟩ := DataW.trod_string u9 g5
   obtain ⟨s6, e6, _, w6⟩ := DataW.trod_string u9 g6
   obtain ⟨b7, e7, w7⟩ := trod_float uf g7
   injection e0 with e0
   injection e1 with e1
   injection e2 with e2
   injection e3 with e3
   injection e5 with e5
   injection e6 with e6
   subst e0; subst e1; subst e2; subst e3; subst e4; subst e5; subst e6; subst e7
   rw [b21] at hb
   refine ⟨⟨n0, n1, n2, n3, l, s5, s6, b7⟩, A, c, rfl, ⟨w0, w1, w2, w3, hwl, ?_, hb, w5, w6⟩, hlc, hI⟩
   simpa [Lit.wf] using w7
instance : Inhabited (Rec × Option Addr × Nat) := ⟨default, none, 0⟩
theorem open_records {A : Option Addr} {len cap : Nat} {d : DataW H} {ps : List MemPlace} (h : DataW.Trod enc Tryz.prog w base spare held 22 (.slice A len cap) d ps) (hw : ∀ n ∈ d.weights Tryz.prog 22, n ≤ reachBytes) :
 ∃ T : List Rec, T.length = len ∧ len ≤ cap ∧ cap ≤ maxLen ∧ (∀ x ∈ T, x.Wf) ∧ Table w A T := by
 obtain ⟨fuel, hf⟩ := h
 have u22 : Tryz.prog.underlying 22 = some (.slice 113) := Tryz.underlying22
 have c96 : Tryz.prog.cellsOf 113 = 8 := by kernel_rfl
 rcases Deep.open_slice u22 hf with ⟨hcs, _⟩ | ⟨a, l, c, m, n, D, Pl, hcs, hb, hl, hm, hmm, hx, hi⟩
 ·simp [Value.cells] at hcs
  obtain ⟨rfl, rfl, rfl⟩ := hcs
  exact ⟨[], rfl, Nat.le_refl _, Nat.zero_le _, fun x hx => by simp at hx, fun i x hx => by simp at hx⟩
 ·simp [Value.cells] at hcs
  obtain ⟨rfl, rfl, rfl⟩ := hcs
  injection hx with hx1 hx2
  have hlm : len ≤ m := by rw [hmm]; split <;> omega
  obtain ⟨R, hR⟩ := Deep.choose_lt (n := len) (p := fun i (r : Rec × Option Addr × Nat) => w.cells? base (a.add (i * 8)) 8 = some [.int .i64 r.1.kind, .int .i64 r.1.lo, .int .i64 r.1.hi, .int .i64 r.1.n, .slice r.2.1 r.1.to.length r.2.2, .string r.1.name, .string r.1.other, .float .f64 r.1.weight] ∧ r.1.Wf ∧ r.1.to.length ≤ r.2.2 ∧ Ints .i32 w r.2.1 r.1.to) (fun i hil => by
   obtain ⟨cs', h1, h2⟩ := hi i (by omega)
   rw [c96] at h1
   obtain ⟨r, A', c', rfl, h3, h4, h5⟩ := rec_read h2 (fun n hn => by
    refine hw n ?_
    rw [hx1]
    simp only [DataW.weights, u22]
    refine List.mem_cons_of_mem _ (List.mem_append_left _ (weightsAll_mem (List.mem_map.2 ⟨i, List.mem_range.2 hil, rfl⟩) n hn)))
   exact ⟨(r, A', c'), h1, h3, h4, h5⟩)
  refine ⟨(List.range len).map fun i => (R i).1, by simp, hl, hm, ?_, ?_⟩
  ·intro x hx
   obtain ⟨i, hi, rfl⟩ := List.mem_map.1 hx
   exact (hR i (List.mem_range.1 hi)).2.1
  ·intro i x hx
   rw [List.getElem?_map] at hx
   obtain ⟨j, hj, rfl⟩ := Option.map_eq_some_iff.1 hx
   have hil : i < len := by
    rcases Nat.lt_or_ge i len with h | h
    ·exact h
    ·rw [List.getElem?_eq_none (by simpa using h)] at hj; cases hj
   rw [List.getElem?_range hil] at hj
   obtain rfl := Option.some.inj hj
   obtain ⟨hc, h3, h4, h5⟩ := hR i hil
   obtain ⟨hb', _, hcell⟩ := World.cells?_some hc
   refine ⟨a, rfl, ?_⟩
   have hadd : ∀ (a : Addr) (k : Nat), 0 < k → a.add k = ⟨a.block, a.off + k, none⟩ := fun a k hk => by
    unfold Addr.add
    simp [Nat.pos_iff_ne_zero.1 hk]
   refine ⟨(R i).2.1, (R i).2.2, ?_, ?_⟩
   ·have k0 := hcell 0 (by omega)
    have k1 := hcell 1 (by omega)
    have k2 := hcell 2 (by omega)
    have k3 := hcell 3 (by omega)
    have k4 := hcell 4 (by omega)
    have k5 := hcell 5 (by omega)
    have k6 := hcell 6 (by omega)
    have k7 := hcell 7 (by omega)
    rw [hadd _ _ (by omega)] at k1 k2 k3 k4 k5 k6 k7
    rw [show (a.add (i * 8)).add 0 = a.add (i * 8) by simp [Addr.add]] at k0
    exact ⟨k0, k1, k2, k3, k4, k5, k6, k7⟩
   ·exact h5
theorem open_row {r : Reach} {b0 : Nat} {P : Program} {t e : TypeId} {k : IntKind} {v : Value} {d : DataW H} {ps : List MemPlace} (ht : P.underlying t = some (.slice e)) (he : P.underlying e = some (.int k)) (hc : P.cellsOf e = 1)
 (hval : Value.okWide P w r b0 t v) (h : DataW.Trod enc P w base spare held t v d ps) (hw : ∀ n ∈ d.weights P t, n ≤ reachBytes) :
 ∃ (A : Option Addr) (c : Nat) (l : List Int), v = .slice A l.length c ∧ l.length ≤ c ∧ c ≤ maxLen ∧ Ints k w A l ∧ (∀ z ∈ l, (Lit.int k z).wf = true) ∧ l.length * P.bytesOf e ≤ 140737488351232 := by
 obtain ⟨a, len, cap, rfl⟩ := okWide_slice ht hval
 obtain ⟨fuel, hf⟩ := h
 exact ints_read ht he hc hf hw
end
end Go.Proofs.YtnohcnneflogjaaGreat.M
namespace Go.Proofs.YtnohcnneflogjaaGreat.M
open Go.RowKit
theorem number_calls (A : Option Addr) (c : Nat) (T : List Rec) (f d : Int) (w : World) (hT : Table w A T) (hR : ∀ x ∈ T, Right x) (hW : ∀ x ∈ T, x.Wf) (hl : T.length ≤ 4096) (hd1 : -2147483648 ≤ d) (hd2 : d ≤ 2147483647) (hf : 1 ≤ f) (hf9 : f ≤ 9) (r : Int) (hr : numF T f (·.n) d = r) :
 Calls Tryz.prog 174 #[.slice A T.length c, .int .i64 f, .int .i32 d] w fun e w' => e = .returned (.int .i64 r) ∧ Up w w' := by
 have hu96 := Tryz.underlying113
 have HT := Az.mk hT
 have HR := Az.mk hR
 unfold numF at hr
 rcases find_cases T f d with ⟨h1, h2⟩ | ⟨i, x, hi, hx, h1, h2, h3⟩
 ·rw [h2] at hr
  have H1 := Az.mk h1
  have hr' : (0 : Int) = r := hr
  subst hr'
  clear hT hR hW hr h1 h2
  go_enter Tryz.func174, Tryz.ntmps174
  go_wp2_with (first | (go_at_call 143; (with_reducible refine (RFind_calls A c T f d (-1) _ HT.out HR.out hl hf hf9 hd1 hd2 H1.out).mono ?_); rintro e w1 ⟨rfl, hb1⟩))
  go_ret
  exact ⟨rfl, hb1⟩
 ·rw [h2] at hr
  have H1 := Az.mk h1
  have hr' : x.n = r := hr
  obtain ⟨ad, hA, A', c', hrec, hto⟩ := hT i x hx
  subst hA
  have HREC := Az.mk hrec
  have p1 : 0 ≤ (i : Int) := by omega
  have p2 : (i : Int) < (T.length : Int) := by omega
  have p3 : decide ((i : Int) < 0) = false := dFz (by omega)
  have p4 : decide (0 ≤ (i : Int)) = true := dTz (by omega)
  subst hr'
  clear hT hR hW hr h1 h2 h3 hrec hto hx
  go_enter Tryz.func174, Tryz.ntmps174
  go_wp2_with (first | (go_at_call 143; (with_reducible refine (RFind_calls _ c T f d i _ HT.out HR.out hl hf hf9 hd1 hd2 H1.out).mono ?_); rintro e w1 ⟨rfl, hb1⟩; obtain ⟨g0, g1, g2, g3, g4, g5, g6, g7⟩ := HREC.out.up hb1))
  go_ret
  exact ⟨rfl, hb1⟩
theorem RMark_calls (A : Option Addr) (c : Nat) (T : List Rec) (d : Int) (w : World) (hT : Table w A T) (hR : ∀ x ∈ T, Right x) (hW : ∀ x ∈ T, x.Wf) (hl : T.length ≤ 4096) (hd1 : -2147483648 ≤ d) (hd2 : d ≤ 2147483647) (r : Bool) (hr : (numF T 6 (fun _ => 1) d == 1) = r) :
 Calls Tryz.prog 108 #[.slice A T.length c, .int .i32 d] w fun e w' => e = .returned (.bool r) ∧ Up w w' := by
 have hu96 := Tryz.underlying113
 have HT := Az.mk hT
 have HR := Az.mk hR
 unfold numF at hr
 rcases find_cases T 6 d with ⟨h1, h2⟩ | ⟨i, x, hi, hx, h1, h2, h3⟩
 ·rw [h2] at hr
  have H1 := Az.mk h1
  have hr' : false = r := hr
  subst hr'
  clear hT hR hW hr h1 h2
  go_enter Tryz.func108, Tryz.ntmps108
  go_wp2_with (first | (go_at_call 143; (with_reducible refine (RFind_calls A c T 6 d (-1) _ HT.out HR.out hl (by decide) (by decide) hd1 hd2 H1.out).mono ?_); rintro e w1 ⟨rfl, hb1⟩))
  go_ret
  exact ⟨rfl, hb1⟩
 ·rw [h2] at hr
  have H1 := Az.mk h1
  have hr' : true = r := hr
  obtain ⟨ad, hA, A', c', hrec, hto⟩ := hT i x hx
  subst hA
  have HREC := Az.mk hrec
  have p1 : 0 ≤ (i : Int) := by omega
  have p2 : (i : Int) < (T.length : Int) := by omega
  have p3 : decide ((i : Int) < 0) = false := dFz (by omega)
  have p4 : decide (0 ≤ (i : Int)) = true := dTz (by omega)
  subst hr'
  clear hT hR hW hr h1 h2 h3 hrec hto hx
  go_enter Tryz.func108, Tryz.ntmps108
  go_wp2_with (first | (go_at_call 143; (with_reducible refine (RFind_calls _ c T 6 d i _ HT.out HR.out hl (by decide) (by decide) hd1 hd2 H1.out).mono ?_); rintro e w1 ⟨rfl, hb1⟩; obtain ⟨g0, g1, g2, g3, g4, g5, g6, g7⟩ := HREC.out.up hb1))
  go_ret
  exact ⟨rfl, hb1⟩
theorem RStatus_calls (A : Option Addr) (c : Nat) (T : List Rec) (d : Int) (w : World) (hT : Table w A T) (hR : ∀ x ∈ T, Right x) (hW : ∀ x ∈ T, x.Wf) (hl : T.length ≤ 4096) (hd1 : -2147483648 ≤ d) (hd2 : d ≤ 2147483647) (r : Int) (hr : statF T d = r) :
 Calls Tryz.prog 109 #[.slice A T.length c, .int .i32 d] w fun e w' => e = .returned (.int .i64 r) ∧ Up w w' := by
 have hu96 := Tryz.underlying113
 have HT := Az.mk hT
 have HR := Az.mk hR
 unfold statF at hr
 rcases find_cases T 1 d with ⟨h1, h2⟩ | ⟨i, x, hi, hx, h1, h2, h3⟩
 ·rw [h2] at hr
  have H1 := Az.mk h1
  have hr' : (0 : Int) = r := hr
  subst hr'
  clear hT hR hW hr h1 h2
  go_enter Tryz.func109, Tryz.ntmps109
  go_wp2_with (first | (go_at_call 143; (with_reducible refine (RFind_calls A c T 1 d (-1) _ HT.out HR.out hl (by decide) (by decide) hd1 hd2 H1.out).mono ?_); rintro e w1 ⟨rfl, hb1⟩))
  go_ret
  exact ⟨rfl, hb1⟩
 ·rw [h2] at hr
  have H1 := Az.mk h1
  have hr' : statN x.kind = r := hr
  obtain ⟨ad, hA, A', c', hrec, hto⟩ := hT i x hx
  subst hA
  have p1 : 0 ≤ (i : Int) := by omega
  have p2 : (i : Int) < (T.length : Int) := by omega
  have p3 : decide ((i : Int) < 0) = false := dFz (by omega)
  have p4 : decide (0 ≤ (i : Int)) = true := dTz (by omega)
  have hf : fam x.kind = 1 := by
   obtain ⟨h4, h5⟩ := findR_some h2
   unfold hitB at h5
   simp only [Bool.and_eq_true, decide_eq_true_eq] at h5
   exact h5.1
  have hk : x.kind = 1 ∨ x.kind = 2 ∨ x.kind = 3 ∨ x.kind = 4 ∨ x.kind = 5 := by
   have h := (hR x (List.mem_of_getElem? hx)).kind
   generalize x.kind = q at h hf
   rcases fam_cases h.1 h.2 with rfl | rfl | rfl | rfl | rfl | rfl | rfl | rfl | rfl | rfl | rfl | rfl | rfl | rfl | rfl <;> first | omega | (exfalso; revert hf; decide)
  obtain ⟨q, hq⟩ : ∃ q, x.kind = q := ⟨_, rfl⟩
  rw [hq] at hk hr'
  have HREC : Az (w.cell? (ad.add (i * 8)) = some (.int .i64 q)) := ⟨by rw [← hq]; exact hrec.1⟩
  clear hT hR hW hr h1 h2 h3 hrec hto hx hf hq
  rcases hk with rfl | rfl | rfl | rfl | rfl
  all_goals (subst hr'; try rw [show statN _ = _ from rfl])
  all_goals
   go_enter Tryz.func109, Tryz.ntmps109
   go_wp2_with (first | (go_at_call 143; (with_reducible refine (RFind_calls _ c T 1 d i _ HT.out HR.out hl (by decide) (by decide) hd1 hd2 H1.out).mono ?_); rintro e w1 ⟨rfl, hb1⟩; have g0 := up_cell hb1 HREC.out))
   go_ret
   exact ⟨rfl, hb1⟩
theorem TClass_calls (A : Option Addr) (c : Nat) (T : List Rec) (d : Int) (w : World) (hT : Table w A T) (hR : ∀ x ∈ T, Right x) (hW : ∀ x ∈ T, x.Wf) (hl : T.length ≤ 4096) (hd1 : -2147483648 ≤ d) (hd2 : d ≤ 2147483647) (r : Int) (hr : classF T d = r) :
 Calls Tryz.prog 82 #[.slice A T.length c, .int .i32 d] w fun e w' => e = .returned (.int .i64 r) ∧ Up w w' := by
 have HT := Az.mk hT
 have HR := Az.mk hR
 have HW := Az.mk hW
 have HQ := Az.mk hr
 clear hT hR hW hr
 go_enter Tryz.func82, Tryz.ntmps82
 go_wp2_with (first | (go_at_call 132; (with_reducible refine (RClass_calls A c T d _ HT.out HR.out HW.out hl hd1 hd2 r HQ.out).mono ?_); rintro e w1 ⟨rfl, hb1⟩))
 go_ret
 exact ⟨rfl, hb1⟩
theorem TBidi_calls (A : Option Addr) (c : Nat) (T : List Rec) (d : Int) (w : World) (hT : Table w A T) (hR : ∀ x ∈ T, Right x) (hW : ∀ x ∈ T, x.Wf) (hl : T.length ≤ 4096) (hd1 : -2147483648 ≤ d) (hd2 : d ≤ 2147483647) (r : Int) (hr : numF T 4 (·.n) d = r) :
 Calls Tryz.prog 145 #[.slice A T.length c, .int .i32 d] w fun e w' => e = .returned (.int .i64 r) ∧ Up w w' := by
 have HT := Az.mk hT
 have HR := Az.mk hR
 have HW := Az.mk hW
 have HQ := Az.mk hr
 clear hT hR hW hr
 go_enter Tryz.func145, Tryz.ntmps145
 go_wp2_with (first | (go_at_call 174; (with_reducible refine (number_calls A c T 4 d _ HT.out HR.out HW.out hl hd1 hd2 (by decide) (by decide) r HQ.out).mono ?_); rintro e w1 ⟨rfl, hb1⟩))
 go_ret
 exact ⟨rfl, hb1⟩
theorem TJoin_calls (A : Option Addr) (c : Nat) (T : List Rec) (d : Int) (w : World) (hT : Table w A T) (hR : ∀ x ∈ T, Right x) (hW : ∀ x ∈ T, x.Wf) (hl : T.length ≤ 4096) (hd1 : -2147483648 ≤ d) (hd2 : d ≤ 2147483647) (r : Int) (hr : numF T 5 (·.n) d = r) :
 Calls Tryz.prog 173 #[.slice A T.length c, .int .i32 d] w fun e w' => e = .returned (.int .i64 r) ∧ Up w w' := by
 have HT := Az.mk hT
 have HR := Az.mk hR
 have HW := Az.mk hW
 have HQ := Az.mk hr
 clear hT hR hW hr
 go_enter Tryz.func173, Tryz.ntmps173
 go_wp2_with (first | (go_at_call 174; (with_reducible refine (number_calls A c T 5 d _ HT.out HR.out HW.out hl hd1 hd2 (by decide) (by decide) r HQ.out).mono ?_); rintro e w1 ⟨rfl, hb1⟩))
 go_ret
 exact ⟨rfl, hb1⟩
end Go.Proofs.YtnohcnneflogjaaGreat.M
namespace Go.Proofs.YtnohcnneflogjaaGreat.M
open Go.RowKit
theorem Made_no (A : Option Addr) (c : Nat) (T : List Rec) (w : World) (hT : Table w A T) (hW : ∀ x ∈ T, x.Wf) (hc : T.length ≤ c) (he : (checkE (T.take 150)).2 ≠ 0) :
 Calls Tryz.prog 21 #[.slice A T.length c] w fun e w' => e = .returned (.tuple #[.pointer none, .slice none 0 0, .int .i64 0]) ∧ Up w w' := by
 refine (Made_calls A c T w hT hW hc).mono ?_
 rintro e w' (⟨_, h⟩ | ⟨h, _⟩)
 ·exact h
 ·exact absurd h he
theorem Made_yes (A : Option Addr) (c : Nat) (T P : List Rec) (w : World) (hP : T.take 150 = P) (hT : Table w A T) (hW : ∀ x ∈ T, x.Wf) (hc : T.length ≤ c) (he : (checkE P).2 = 0) :
 Calls Tryz.prog 21 #[.slice A T.length c] w fun e w' => ∃ bd D A c, e = .returned (.tuple #[.pointer (some ⟨bd, 0, none⟩), .slice A P.length c, .int .i64 1]) ∧ DataAt w.heap.size w' bd D P ∧ TabFrom w.heap.size w' A P ∧ Up w w' := by
 subst hP
 refine (Made_calls A c T w hT hW hc).mono ?_
 rintro e w' (⟨h, _⟩ | ⟨_, h⟩)
 ·exact absurd he h
 ·exact h
end Go.Proofs.YtnohcnneflogjaaGreat.M
