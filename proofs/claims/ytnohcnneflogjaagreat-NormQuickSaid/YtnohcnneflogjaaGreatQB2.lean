/- norm.composed, walked. (printed by mknorm1.py) -/
import Derived.Test.YtnohcnneflogjaaGreatQB1
set_option maxHeartbeats 16000000
set_option maxRecDepth 1000000
set_option linter.unusedVariables false
set_option linter.unusedSimpArgs false
namespace Go.Proofs.YtnohcnneflogjaaGreat.M.Nm
open Go.Shelf Go.RowKit Go.Lib Go.Sort St
attribute [local go_sem] max_two_int
def topF (cl : Int → Int) (tl : List Int) : Int := tl.foldl (fun m z => max m (cl z)) (-1)
theorem topF_snoc (cl : Int → Int) (tl : List Int) (c : Int) : topF cl (tl ++ [c]) = max (topF cl tl) (cl c) := by unfold topF; rw [List.foldl_append]; rfl
theorem topF_lt (cl : Int → Int) (n : Int) (hn : 0 ≤ n) : ∀ tl, decide (topF cl tl < n) = tl.all (fun z => decide (cl z < n)) := by
 have key : ∀ (tl : List Int) (m : Int), decide (tl.foldl (fun m z => max m (cl z)) m < n) = (decide (m < n) && tl.all (fun z => decide (cl z < n))) := by
  intro tl
  induction tl with
  | nil => intro m; rw [List.all_nil, Bool.and_true]; rfl
  | cons a t ih =>
    intro m
    rw [List.foldl_cons, ih, List.all_cons, ← Bool.and_assoc]
    congr 1
    rw [Bool.eq_iff_iff]
    simp only [Bool.and_eq_true, decide_eq_true_eq]
    omega
 intro tl
 unfold topF
 rw [key tl (-1), dTz (by omega), Bool.true_and]
theorem comp_range {T : List Rec} (hF : Fine T) {a b p : Int} (h : compF T a b = (p, true)) : -2147483648 ≤ p ∧ p ≤ 2147483647 := by
 have h1 := (comp_yes hF h).1
 rcases (by omega : (p < 0 ∨ 1114111 < p) ∨ (0 ≤ p ∧ p ≤ 1114111)) with h2 | h2
 ·rw [(beyond_full h2).1] at h1
  cases h1
 ·omega
structure CmpS (T : List Rec) (x ys : List Int) (i : Nat) (dn : List Int) (st : Option Int) (tl L : List Int) (sv t : Int) : Prop where
 l : L = dn ++ (st.toList ++ tl)
 s : sv = (match st with | none => -1 | some _ => (dn.length : Int))
 t : topF (numF T 2 (·.n)) tl = t
 eq : dn ++ cmpF T (x.drop i) st tl = ys
 le : L.length ≤ i
section
variable {T : List Rec} {x ys : List Int} {i : Nat} {dn tl L : List Int} {sv t c : Int}
theorem CmpS.start (T : List Rec) (x : List Int) : CmpS T x (composeF T x) 0 [] none [] [] (-1) (-1) := ⟨rfl, rfl, rfl, rfl, Nat.le_refl _⟩
theorem CmpS.none_zero (h : CmpS T x ys i dn none tl L sv t) (hc : x.drop i = c :: x.drop (i + 1)) (h0 : classF T c = 0) : CmpS T x ys (i + 1) (dn ++ tl) (some c) [] (L ++ [c]) (L.length : Int) (-1) := by
 have hl := h.l
 refine ⟨by rw [hl]; simp, (by show (L.length : Int) = ((dn ++ tl).length : Int); rw [hl]; simp), rfl, ?_, by have := h.le; rw [List.length_append]; simp; omega⟩
 have := h.eq
 rw [hc, cmpF, if_pos h0] at this
 rw [List.append_assoc]
 exact this
theorem CmpS.none_mark (h : CmpS T x ys i dn none tl L sv t) (hc : x.drop i = c :: x.drop (i + 1)) (h0 : classF T c ≠ 0) : CmpS T x ys (i + 1) dn none (tl ++ [c]) (L ++ [c]) sv (max t (classF T c)) := by
 have hl := h.l
 refine ⟨by rw [hl]; simp, h.s, by rw [topF_snoc, h.t]; rfl, ?_, by have := h.le; rw [List.length_append]; simp; omega⟩
 have := h.eq
 rwa [hc, cmpF, if_neg h0] at this
theorem CmpS.comp {s : Int} (h : CmpS T x ys i dn (some s) tl L sv t) (hc : x.drop i = c :: x.drop (i + 1)) (ht : t < classF T c) (h0 : 0 ≤ classF T c) (hok : (compF T s c).2 = true) : CmpS T x ys (i + 1) dn (some (compF T s c).1) tl (L.set dn.length (compF T s c).1) sv t := by
 have hl := h.l
 refine ⟨by rw [hl]; simp [List.set_append], h.s, h.t, ?_, by have := h.le; rw [List.length_set]; omega⟩
 have := h.eq
 have ha : tl.all (fun z => decide (classF T z < classF T c)) = true := by
  have := topF_lt (numF T 2 (·.n)) (classF T c) h0 tl
  rw [h.t, dTz ht] at this
  exact this.symm
 rwa [hc, cmpF, if_pos ⟨ha, hok⟩] at this
theorem CmpS.some_zero {s : Int} (h : CmpS T x ys i dn (some s) tl L sv t) (hc : x.drop i = c :: x.drop (i + 1)) (hn : ¬ (t < classF T c ∧ (compF T s c).2 = true)) (hp : 0 ≤ classF T c) (h0 : classF T c = 0) : CmpS T x ys (i + 1) (dn ++ s :: tl) (some c) [] (L ++ [c]) (L.length : Int) (-1) := by
 have hl := h.l
 refine ⟨by rw [hl]; simp, (by show (L.length : Int) = ((dn ++ s :: tl).length : Int); rw [hl]; simp), rfl, ?_, by have := h.le; rw [List.length_append]; simp; omega⟩
 have := h.eq
 rw [hc, cmpF, if_neg (fun h' => hn ⟨of_decide_eq_true (by rw [← h.t, topF_lt _ _ hp]; exact h'.1), h'.2⟩), if_pos h0] at this
 rw [List.append_assoc]
 exact this
theorem CmpS.some_mark {s : Int} (h : CmpS T x ys i dn (some s) tl L sv t) (hc : x.drop i = c :: x.drop (i + 1)) (hn : ¬ (t < classF T c ∧ (compF T s c).2 = true)) (hp : 0 ≤ classF T c) (h0 : classF T c ≠ 0) : CmpS T x ys (i + 1) dn (some s) (tl ++ [c]) (L ++ [c]) sv (max t (classF T c)) := by
 have hl := h.l
 refine ⟨by rw [hl]; simp, h.s, by rw [topF_snoc, h.t]; rfl, ?_, by have := h.le; rw [List.length_append]; simp; omega⟩
 have := h.eq
 rwa [hc, cmpF, if_neg (fun h' => hn ⟨of_decide_eq_true (by rw [← h.t, topF_lt _ _ hp]; exact h'.1), h'.2⟩), if_neg h0] at this
theorem CmpS.done {st : Option Int} (h : CmpS T x ys i dn st tl L sv t) (hi : x.length ≤ i) : L = ys := by
 have := h.eq
 rw [List.drop_eq_nil_of_le hi, cmpF] at this
 rw [h.l, this]
theorem CmpS.at {s : Int} (h : CmpS T x ys i dn (some s) tl L sv t) : rd L (dn.length : Int) = s ∧ dn.length < L.length := by
 rw [h.l, rd_get _ _ (by simp), List.getElem_append_right (Nat.le_refl _)]
 simp
end
theorem inI32_snoc {L : List Int} (h : InI32 L) {z : Int} (hz : -2147483648 ≤ z ∧ z ≤ 2147483647) : InI32 (L ++ [z]) := fun y hy => by
 rcases List.mem_append.1 hy with h' | h'
 ·exact h y h'
 ·rw [List.mem_singleton.1 h']; exact hz
theorem inI32_put {L : List Int} (h : InI32 L) {q : Nat} {z : Int} (hz : -2147483648 ≤ z ∧ z ≤ 2147483647) : InI32 (L.set q z) := fun y hy => by
 rcases List.mem_or_eq_of_mem_set hy with h' | rfl
 ·exact h y h'
 ·exact hz
theorem composed_calls {H : Nat} {w : World} {bd : Nat} {D : DataV} {T : List Rec} (hD : DataAt H w bd D T) (hF : Fine T) (A : Option Addr) (c : Nat) (x : List Int) (hI : Ints .i32 w A x) (hr : InI32 x) (hx : x.length ≤ 10000000) (ys : List Int) (hys : composeF T x = ys) :
 Calls Tryz.prog 87 #[.pointer (some ⟨bd, 0, none⟩), .slice A x.length c] w (RetRow ys w) := by
 obtain ⟨ie, ze, hie, hze, hsi, hby, hzc⟩ := i32_info
 have HD := Az.mk hD
 have HF := Az.mk hF
 have HX := Az.mk hI
 have HR := Az.mk hr
 have HC0 : Az (CmpS T x ys 0 [] none [] [] (-1) (-1)) := ⟨by rw [← hys]; exact CmpS.start T x⟩
 have HPOS := Az.mk (hp_of hF.toGood)
 obtain ⟨n, hn⟩ : ∃ n, x.length = n := ⟨_, rfl⟩
 have HN := Az.mk hn
 have HXL : Az (n ≤ 10000000) := ⟨by omega⟩
 have hxn := HXL.out
 rw [hn]
 have HLEN : Az (n ≤ maxLen ∧ ie.bytes * n ≤ 281474976710656) := ⟨by rw [hby]; unfold maxLen; omega⟩
 obtain ⟨w1, hmk, hown1, hgrow1⟩ := run_make_own (P := Tryz.prog) w w.heap.size 23 21 ie ze 1 Tryz.underlying23 hie hze hsi .i64 .i64 n HLEN.out.2 HLEN.out.1 (Nat.le_refl _)
 have HU1 : Az (Up w w1) := ⟨up_nil (v := .slice none 0 0) hgrow1 rfl⟩
 have HO1 := Az.mk hown1
 clear hD hF hI hr hys hown1 hgrow1 hn hx hxn
 go_enter Tryz.func87, Tryz.ntmps87
 go_wp2
 go_loopg [5, 6, 7, 18] n (fun k v5 v6 v7 v18 wr => ∃ (i : Nat) (dn tl L : List Int) (st : Option Int) (Ay : Option Addr) (cy : Nat) (sv t : Int), v18 = .int .i64 i ∧ v5 = .slice Ay L.length cy ∧ v6 = .int .i64 sv ∧ v7 = .int .i64 t ∧ Az (i + k = n) ∧ Az (CmpS T x ys i dn st tl L sv t) ∧ Az (InI32 L) ∧ Az (wr.ownsRow w.heap.size 21 1 (.slice Ay L.length cy) L.length (L.map (Value.int .i32))) ∧ Az (Up w wr))
 case atStart => exact ⟨0, [], [], [], none, _, _, -1, -1, rfl, rfl, rfl, rfl, ⟨Nat.zero_add _⟩, HC0, ⟨fun z hz => by cases hz⟩, HO1, HU1⟩
 case round =>
  obtain ⟨i, dn, tl, L, st, Ay, cy, sv, t, rfl, rfl, rfl, rfl, HI, HC, HLR, HO, HU⟩ := hrel
  clear HC0 HU1 HO1 hmk
  cases gk with
  | zero =>
    have hlt : decide ((i : Int) < (n : Int)) = false := dFz (by have := HI.out; omega)
    have hlt1 : ¬ (i < n) := by have := HI.out; omega
    have e := HC.out.done (by have := HN.out; omega)
    go_wp2
    go_ret
    subst e
    exact ⟨_, rfl, HO.out, HU.out⟩
  | succ k =>
    have hi : i < n := by have := HI.out; omega
    have hix : i < x.length := by rw [HN.out]; exact hi
    have hlt : decide ((i : Int) < (n : Int)) = true := dTz (by omega)
    have z1 : (i : Int) < (n : Int) := by omega
    have z2 : (i : Int) < 100000000 := by have := HXL.out; omega
    have zl : (L.length : Int) < 100000000 := by have := HC.out.le; omega
    obtain ⟨ad, hA, y1⟩ := HX.out.at_ i (by omega) (by omega)
    have y2 := up_cell HU.out y1
    rw [Int.toNat_natCast] at y2
    subst hA
    clear y1
    obtain ⟨c', hc'⟩ : ∃ c', x[i] = c' := ⟨_, rfl⟩
    rw [rd_elem x i hix, hc'] at y2
    have HCR : Az (-2147483648 ≤ c' ∧ c' ≤ 2147483647) := ⟨HR.out c' (by rw [← hc']; exact List.getElem_mem _)⟩
    have HDR : Az (x.drop i = c' :: x.drop (i + 1)) := ⟨by rw [List.drop_eq_getElem_cons hix, hc']⟩
    obtain ⟨m, hm⟩ : ∃ m, numF T 2 (·.n) c' = m := ⟨_, rfl⟩
    have HM := Az.mk hm
    have HM0 : Az (0 ≤ m) := ⟨by rw [← hm]; exact HPOS.out c'⟩
    have HFC := Az.mk ((HD.out.up HU.out).Class HF.out.toGood c' m HM.out HCR.out.1 HCR.out.2)
    have MA : Az (L.length + 1 ≤ maxLen ∧ (L.length + 1) * 4 ≤ 140737488355328) := ⟨by unfold maxLen; omega⟩
    obtain ⟨⟨_, _, _, a3, _, _, _⟩, ⟨a7, a8, a9, a10, a11⟩, _, _, _, _, _⟩ := (HD.out.up HU.out).all
    have A7 := Az.mk a7
    have A8 := Az.mk a8
    have A9 := Az.mk a9
    have A10 := Az.mk a10
    have A11 := Az.mk a11
    clear hc' hm hix a7 a8 a9 a10 a11
    have hw1 : wrap64 ((L.length : Int) + 1 - 1) = (L.length : Int) := by unfold wrap64; omega
    have hw3 : wrap64 ((L.length : Int)) = (L.length : Int) := by unfold wrap64; omega
    cases st with
    | none =>
      have hsv : sv = -1 := HC.out.s
      have HSV := Az.mk hsv
      subst hsv
      have g0 : decide ((-1 : Int) ≥ 0) = false := by decide
      by_cases hz : m = 0
      ·have e0 : (m == 0) = true := beq_iff_eq.mpr hz
       have HZ := Az.mk hz
       clear hz
       go_wp2_with (first | (at_builtin; refine (wpList_append_row _ rfl _ _ 23 rfl w.heap.size 21 ie ze 1 4 Tryz.underlying23 hie hze hsi hby hzc (by decide) (.slice Ay L.length cy) L.length (L.map (Value.int .i32)) rfl ((own_up HO.out HV1.out).alloc _) (some ⟨w1.heap.size, 0, none⟩) 1 1 (([c'] : List Int).map (Value.int .i32)) rfl rfl (ints_new w1 [c']) (ints_one _ _) ?ha ?hb ?hc ?_); (case ha => exact MA.out.1); (case hb => exact MA.out.2); (case hc => exact (up_alloc HU1.out _).size); intro v' w4 hown hgrow hat; have HO4 : Az (w4.ownsRow w.heap.size 21 1 v' (L.length + 1) ((L ++ [c']).map (Value.int .i32))) := ⟨(congrArg (fun t => w4.ownsRow w.heap.size 21 1 v' (L.length + 1) t) (List.map_append (f := Value.int .i32) (l₁ := L) (l₂ := [c']))).mpr hown⟩; have HU4 := Az.mk ((up_alloc HU1.out (.cells #[.int .i32 c'] 21)).grown hgrow (up_alloc HU1.out (.cells #[.int .i32 c'] 21)).size (fun k hk => (((own_up HO.out HV1.out).lt k hk).1))); obtain ⟨A4, c4, hv⟩ := own_any HO4.out; subst hv; clear hown hgrow hat) | (go_at_call 27; (with_reducible refine HFC.out.mono ?_); rintro e w1 ⟨rfl, hup⟩; have HU1 := Az.mk (up_trans HU.out hup); have HV1 := Az.mk hup; clear hup))
       go_roundg k
       case measure => omega
       case rel => exact ⟨i + 1, dn ++ tl, [], L ++ [c'], some c', A4, c4, (L.length : Int), -1, by go_num, by simp, by simp, by simp, ⟨by have := HI.out; omega⟩, ⟨HC.out.none_zero HDR.out (HM.out.trans HZ.out)⟩, ⟨inI32_snoc HLR.out HCR.out⟩, ⟨by simpa using HO4.out⟩, HU4⟩
      ·have e0 : (m == 0) = false := bqf hz
       have HZ := Az.mk hz
       clear hz
       go_wp2_with (first | (at_builtin; refine (wpList_append_row _ rfl _ _ 23 rfl w.heap.size 21 ie ze 1 4 Tryz.underlying23 hie hze hsi hby hzc (by decide) (.slice Ay L.length cy) L.length (L.map (Value.int .i32)) rfl ((own_up HO.out HV1.out).alloc _) (some ⟨w1.heap.size, 0, none⟩) 1 1 (([c'] : List Int).map (Value.int .i32)) rfl rfl (ints_new w1 [c']) (ints_one _ _) ?ha ?hb ?hc ?_); (case ha => exact MA.out.1); (case hb => exact MA.out.2); (case hc => exact (up_alloc HU1.out _).size); intro v' w4 hown hgrow hat; have HO4 : Az (w4.ownsRow w.heap.size 21 1 v' (L.length + 1) ((L ++ [c']).map (Value.int .i32))) := ⟨(congrArg (fun t => w4.ownsRow w.heap.size 21 1 v' (L.length + 1) t) (List.map_append (f := Value.int .i32) (l₁ := L) (l₂ := [c']))).mpr hown⟩; have HU4 := Az.mk ((up_alloc HU1.out (.cells #[.int .i32 c'] 21)).grown hgrow (up_alloc HU1.out (.cells #[.int .i32 c'] 21)).size (fun k hk => (((own_up HO.out HV1.out).lt k hk).1))); obtain ⟨A4, c4, hv⟩ := own_any HO4.out; subst hv; clear hown hgrow hat) | (go_at_call 27; (with_reducible refine HFC.out.mono ?_); rintro e w1 ⟨rfl, hup⟩; have HU1 := Az.mk (up_trans HU.out hup); have HV1 := Az.mk hup; clear hup))
       go_roundg k
       case measure => omega
       case rel => exact ⟨i + 1, dn, tl ++ [c'], L ++ [c'], none, A4, c4, -1, max t m, by go_num, by simp, by simp, by simp, ⟨by have := HI.out; omega⟩, ⟨HM.out ▸ HC.out.none_mark HDR.out (fun h => HZ.out (HM.out.symm.trans h))⟩, ⟨inI32_snoc HLR.out HCR.out⟩, ⟨by simpa using HO4.out⟩, HU4⟩
    | some s =>
      have hsv : sv = (dn.length : Int) := HC.out.s
      subst hsv
      obtain ⟨hrd, hdl⟩ := HC.out.at
      have g0 : decide ((dn.length : Int) ≥ 0) = true := dTz (by omega)
      have d0 : 0 ≤ (dn.length : Int) := by omega
      have d1 : (dn.length : Int) < (L.length : Int) := by omega
      have HSR : Az (-2147483648 ≤ s ∧ s ≤ 2147483647) := ⟨by rw [← hrd]; exact HLR.out.rd dn.length hdl⟩
      obtain ⟨gg, hg, hge⟩ := own_some HO.out (by omega)
      subst hg
      obtain ⟨q1, q2⟩ := own_at HO.out hdl
      rw [hrd] at q1
      have HQ1 := Az.mk q1
      have HDL := Az.mk hdl
      have HGE := Az.mk hge
      clear hrd q1 q2 hge hdl
      by_cases ht : t < m
      ·have g1 : decide (t < m) = true := dTz ht
       have HT := Az.mk ht
       obtain ⟨p, ok, hpk⟩ : ∃ p ok, compF T s c' = (p, ok) := ⟨_, _, rfl⟩
       have HPK := Az.mk hpk
       clear ht hpk
       cases ok with
       | true =>
         have HPR := Az.mk (comp_range HF.out HPK.out)
         go_wp2_with (first | (go_at_call 27; (with_reducible refine HFC.out.mono ?_); rintro e w1 ⟨rfl, hup⟩; have HU1 := Az.mk (up_trans HU.out hup); have HV1 := Az.mk hup; clear hup))
         have HS0 : Az (∀ W, Up wr W → (fun w' => w'.cell? ⟨bd, 7, none⟩ = some (.map (some D.bo)) ∧ w'.cell? ⟨bd, 8, none⟩ = some (.map (some D.bf)) ∧ w'.cell? ⟨bd, 9, none⟩ = some (.map (some D.bl)) ∧ w'.cell? ⟨bd, 10, none⟩ = some (.map (some D.bc)) ∧ w'.cell? ⟨bd, 11, none⟩ = some (.map (some D.bs)) ∧ w'.cell? ⟨gg, dn.length, none⟩ = some (.int .i32 s)) W) := ⟨fun W hW => ⟨up_cell hW A7.out, up_cell hW A8.out, up_cell hW A9.out, up_cell hW A10.out, up_cell hW A11.out, up_cell hW HQ1.out⟩⟩
         go_region_held3 (fun w' => w'.cell? ⟨bd, 7, none⟩ = some (.map (some D.bo)) ∧ w'.cell? ⟨bd, 8, none⟩ = some (.map (some D.bf)) ∧ w'.cell? ⟨bd, 9, none⟩ = some (.map (some D.bl)) ∧ w'.cell? ⟨bd, 10, none⟩ = some (.map (some D.bc)) ∧ w'.cell? ⟨bd, 11, none⟩ = some (.map (some D.bs)) ∧ w'.cell? ⟨gg, dn.length, none⟩ = some (.int .i32 s)) (first | exact HS0.out _ (up_drew HV1.out) | exact HS0.out _ HV2.out) (first | (go_at_call 46; (with_reducible refine ((HD.out.up (up_drew HU1.out)).Compose s c' p true HPK.out HSR.out.1 HSR.out.2 HCR.out.1 HCR.out.2).mono ?_); rintro e w2 ⟨rfl, hup⟩; have HU2 := Az.mk (up_trans (up_drew HU1.out) hup); have HV2 := Az.mk (up_trans (up_drew HV1.out) hup); clear hup))
         have HO2 := Az.mk (own_up HO.out HV2.out)
         obtain ⟨x1, x2⟩ := own_at HO2.out HDL.out
         have HO5 := Az.mk (own_put HO2.out dn.length p)
         have HU5 : Az (Up w (w2.setCell ⟨gg, dn.length, none⟩ (.int .i32 p))) := ⟨HU2.out.setCell HGE.out _⟩
         have HCC := Az.mk (HC.out.comp HDR.out (by rw [show classF T c' = m from HM.out]; exact HT.out) (by rw [show classF T c' = m from HM.out]; exact HM0.out) (by rw [HPK.out]))
         clear g1 g0
         go_wp2
         go_roundg k
         case measure => omega
         case rel =>
          have e := HCC.out
          rw [HPK.out] at e
          exact ⟨i + 1, dn, tl, L.set dn.length p, some p, _, _, _, t, by go_num, by rw [List.length_set], rfl, rfl, ⟨by have := HI.out; omega⟩, ⟨e⟩, ⟨inI32_put HLR.out HPR.out⟩, ⟨by rw [List.length_set]; exact HO5.out⟩, HU5⟩
       | false =>
         have HNN : Az (¬ (t < classF T c' ∧ (compF T s c').2 = true)) := ⟨by rw [HPK.out]; exact fun h => by cases h.2⟩
         by_cases hz : m = 0
         ·have e0 : (m == 0) = true := beq_iff_eq.mpr hz
          have HZ := Az.mk hz
          clear hz
          go_wp2_with (first | (go_at_call 27; (with_reducible refine HFC.out.mono ?_); rintro e w1 ⟨rfl, hup⟩; have HU1 := Az.mk (up_trans HU.out hup); have HV1 := Az.mk hup; clear hup))
          have HS0 : Az (∀ W, Up wr W → (fun w' => w'.cell? ⟨bd, 7, none⟩ = some (.map (some D.bo)) ∧ w'.cell? ⟨bd, 8, none⟩ = some (.map (some D.bf)) ∧ w'.cell? ⟨bd, 9, none⟩ = some (.map (some D.bl)) ∧ w'.cell? ⟨bd, 10, none⟩ = some (.map (some D.bc)) ∧ w'.cell? ⟨bd, 11, none⟩ = some (.map (some D.bs)) ∧ w'.cell? ⟨gg, dn.length, none⟩ = some (.int .i32 s)) W) := ⟨fun W hW => ⟨up_cell hW A7.out, up_cell hW A8.out, up_cell hW A9.out, up_cell hW A10.out, up_cell hW A11.out, up_cell hW HQ1.out⟩⟩
          go_region_held3 (fun w' => w'.cell? ⟨bd, 7, none⟩ = some (.map (some D.bo)) ∧ w'.cell? ⟨bd, 8, none⟩ = some (.map (some D.bf)) ∧ w'.cell? ⟨bd, 9, none⟩ = some (.map (some D.bl)) ∧ w'.cell? ⟨bd, 10, none⟩ = some (.map (some D.bc)) ∧ w'.cell? ⟨bd, 11, none⟩ = some (.map (some D.bs)) ∧ w'.cell? ⟨gg, dn.length, none⟩ = some (.int .i32 s)) (first | exact HS0.out _ (up_drew HV1.out) | exact HS0.out _ HV2.out) (first | (go_at_call 46; (with_reducible refine ((HD.out.up (up_drew HU1.out)).Compose s c' p false HPK.out HSR.out.1 HSR.out.2 HCR.out.1 HCR.out.2).mono ?_); rintro e w2 ⟨rfl, hup⟩; have HU2 := Az.mk (up_trans (up_drew HU1.out) hup); have HV2 := Az.mk (up_trans (up_drew HV1.out) hup); clear hup))
          go_wp2_with (first | (at_builtin; refine (wpList_append_row _ rfl _ _ 23 rfl w.heap.size 21 ie ze 1 4 Tryz.underlying23 hie hze hsi hby hzc (by decide) (.slice (some ⟨gg, 0, none⟩) L.length cy) L.length (L.map (Value.int .i32)) rfl ((own_up HO.out HV2.out).alloc _) (some ⟨w2.heap.size, 0, none⟩) 1 1 (([c'] : List Int).map (Value.int .i32)) rfl rfl (ints_new w2 [c']) (ints_one _ _) ?ha ?hb ?hc ?_); (case ha => exact MA.out.1); (case hb => exact MA.out.2); (case hc => exact (up_alloc HU2.out _).size); intro v' w4 hown hgrow hat; have HO4 : Az (w4.ownsRow w.heap.size 21 1 v' (L.length + 1) ((L ++ [c']).map (Value.int .i32))) := ⟨(congrArg (fun t => w4.ownsRow w.heap.size 21 1 v' (L.length + 1) t) (List.map_append (f := Value.int .i32) (l₁ := L) (l₂ := [c']))).mpr hown⟩; have HU4 := Az.mk ((up_alloc HU2.out (.cells #[.int .i32 c'] 21)).grown hgrow (up_alloc HU2.out (.cells #[.int .i32 c'] 21)).size (fun k hk => (((own_up HO.out HV2.out).lt k hk).1))); obtain ⟨A4, c4, hv⟩ := own_any HO4.out; subst hv; clear hown hgrow hat))
          go_roundg k
          case measure => omega
          case rel => exact ⟨i + 1, dn ++ s :: tl, [], L ++ [c'], some c', A4, c4, (L.length : Int), -1, by go_num, by simp, by simp, by simp, ⟨by have := HI.out; omega⟩, ⟨HC.out.some_zero HDR.out HNN.out (by rw [show classF T c' = m from HM.out]; exact HM0.out) (HM.out.trans HZ.out)⟩, ⟨inI32_snoc HLR.out HCR.out⟩, ⟨by simpa using HO4.out⟩, HU4⟩
         ·have e0 : (m == 0) = false := bqf hz
          have HZ := Az.mk hz
          clear hz
          go_wp2_with (first | (go_at_call 27; (with_reducible refine HFC.out.mono ?_); rintro e w1 ⟨rfl, hup⟩; have HU1 := Az.mk (up_trans HU.out hup); have HV1 := Az.mk hup; clear hup))
          have HS0 : Az (∀ W, Up wr W → (fun w' => w'.cell? ⟨bd, 7, none⟩ = some (.map (some D.bo)) ∧ w'.cell? ⟨bd, 8, none⟩ = some (.map (some D.bf)) ∧ w'.cell? ⟨bd, 9, none⟩ = some (.map (some D.bl)) ∧ w'.cell? ⟨bd, 10, none⟩ = some (.map (some D.bc)) ∧ w'.cell? ⟨bd, 11, none⟩ = some (.map (some D.bs)) ∧ w'.cell? ⟨gg, dn.length, none⟩ = some (.int .i32 s)) W) := ⟨fun W hW => ⟨up_cell hW A7.out, up_cell hW A8.out, up_cell hW A9.out, up_cell hW A10.out, up_cell hW A11.out, up_cell hW HQ1.out⟩⟩
          go_region_held3 (fun w' => w'.cell? ⟨bd, 7, none⟩ = some (.map (some D.bo)) ∧ w'.cell? ⟨bd, 8, none⟩ = some (.map (some D.bf)) ∧ w'.cell? ⟨bd, 9, none⟩ = some (.map (some D.bl)) ∧ w'.cell? ⟨bd, 10, none⟩ = some (.map (some D.bc)) ∧ w'.cell? ⟨bd, 11, none⟩ = some (.map (some D.bs)) ∧ w'.cell? ⟨gg, dn.length, none⟩ = some (.int .i32 s)) (first | exact HS0.out _ (up_drew HV1.out) | exact HS0.out _ HV2.out) (first | (go_at_call 46; (with_reducible refine ((HD.out.up (up_drew HU1.out)).Compose s c' p false HPK.out HSR.out.1 HSR.out.2 HCR.out.1 HCR.out.2).mono ?_); rintro e w2 ⟨rfl, hup⟩; have HU2 := Az.mk (up_trans (up_drew HU1.out) hup); have HV2 := Az.mk (up_trans (up_drew HV1.out) hup); clear hup))
          go_wp2_with (first | (at_builtin; refine (wpList_append_row _ rfl _ _ 23 rfl w.heap.size 21 ie ze 1 4 Tryz.underlying23 hie hze hsi hby hzc (by decide) (.slice (some ⟨gg, 0, none⟩) L.length cy) L.length (L.map (Value.int .i32)) rfl ((own_up HO.out HV2.out).alloc _) (some ⟨w2.heap.size, 0, none⟩) 1 1 (([c'] : List Int).map (Value.int .i32)) rfl rfl (ints_new w2 [c']) (ints_one _ _) ?ha ?hb ?hc ?_); (case ha => exact MA.out.1); (case hb => exact MA.out.2); (case hc => exact (up_alloc HU2.out _).size); intro v' w4 hown hgrow hat; have HO4 : Az (w4.ownsRow w.heap.size 21 1 v' (L.length + 1) ((L ++ [c']).map (Value.int .i32))) := ⟨(congrArg (fun t => w4.ownsRow w.heap.size 21 1 v' (L.length + 1) t) (List.map_append (f := Value.int .i32) (l₁ := L) (l₂ := [c']))).mpr hown⟩; have HU4 := Az.mk ((up_alloc HU2.out (.cells #[.int .i32 c'] 21)).grown hgrow (up_alloc HU2.out (.cells #[.int .i32 c'] 21)).size (fun k hk => (((own_up HO.out HV2.out).lt k hk).1))); obtain ⟨A4, c4, hv⟩ := own_any HO4.out; subst hv; clear hown hgrow hat))
          go_roundg k
          case measure => omega
          case rel => exact ⟨i + 1, dn, tl ++ [c'], L ++ [c'], some s, A4, c4, (dn.length : Int), max t m, by go_num, by simp, by simp, by simp, ⟨by have := HI.out; omega⟩, ⟨HM.out ▸ HC.out.some_mark HDR.out HNN.out (by rw [show classF T c' = m from HM.out]; exact HM0.out) (fun h => HZ.out (HM.out.symm.trans h))⟩, ⟨inI32_snoc HLR.out HCR.out⟩, ⟨by simpa using HO4.out⟩, HU4⟩
      ·have g1 : decide (t < m) = false := dFz ht
       have HNN : Az (¬ (t < classF T c' ∧ (compF T s c').2 = true)) := ⟨fun h => ht (by rw [show classF T c' = m from HM.out] at h; exact h.1)⟩
       clear ht
       by_cases hz : m = 0
       ·have e0 : (m == 0) = true := beq_iff_eq.mpr hz
        have HZ := Az.mk hz
        clear hz
        go_wp2_with (first | (at_builtin; refine (wpList_append_row _ rfl _ _ 23 rfl w.heap.size 21 ie ze 1 4 Tryz.underlying23 hie hze hsi hby hzc (by decide) (.slice (some ⟨gg, 0, none⟩) L.length cy) L.length (L.map (Value.int .i32)) rfl ((own_up HO.out HV1.out).alloc _) (some ⟨w1.heap.size, 0, none⟩) 1 1 (([c'] : List Int).map (Value.int .i32)) rfl rfl (ints_new w1 [c']) (ints_one _ _) ?ha ?hb ?hc ?_); (case ha => exact MA.out.1); (case hb => exact MA.out.2); (case hc => exact (up_alloc HU1.out _).size); intro v' w4 hown hgrow hat; have HO4 : Az (w4.ownsRow w.heap.size 21 1 v' (L.length + 1) ((L ++ [c']).map (Value.int .i32))) := ⟨(congrArg (fun t => w4.ownsRow w.heap.size 21 1 v' (L.length + 1) t) (List.map_append (f := Value.int .i32) (l₁ := L) (l₂ := [c']))).mpr hown⟩; have HU4 := Az.mk ((up_alloc HU1.out (.cells #[.int .i32 c'] 21)).grown hgrow (up_alloc HU1.out (.cells #[.int .i32 c'] 21)).size (fun k hk => (((own_up HO.out HV1.out).lt k hk).1))); obtain ⟨A4, c4, hv⟩ := own_any HO4.out; subst hv; clear hown hgrow hat) | (go_at_call 27; (with_reducible refine HFC.out.mono ?_); rintro e w1 ⟨rfl, hup⟩; have HU1 := Az.mk (up_trans HU.out hup); have HV1 := Az.mk hup; clear hup))
        go_roundg k
        case measure => omega
        case rel => exact ⟨i + 1, dn ++ s :: tl, [], L ++ [c'], some c', A4, c4, (L.length : Int), -1, by go_num, by simp, by simp, by simp, ⟨by have := HI.out; omega⟩, ⟨HC.out.some_zero HDR.out HNN.out (by rw [show classF T c' = m from HM.out]; exact HM0.out) (HM.out.trans HZ.out)⟩, ⟨inI32_snoc HLR.out HCR.out⟩, ⟨by simpa using HO4.out⟩, HU4⟩
       ·have e0 : (m == 0) = false := bqf hz
        have HZ := Az.mk hz
        clear hz
        go_wp2_with (first | (at_builtin; refine (wpList_append_row _ rfl _ _ 23 rfl w.heap.size 21 ie ze 1 4 Tryz.underlying23 hie hze hsi hby hzc (by decide) (.slice (some ⟨gg, 0, none⟩) L.length cy) L.length (L.map (Value.int .i32)) rfl ((own_up HO.out HV1.out).alloc _) (some ⟨w1.heap.size, 0, none⟩) 1 1 (([c'] : List Int).map (Value.int .i32)) rfl rfl (ints_new w1 [c']) (ints_one _ _) ?ha ?hb ?hc ?_); (case ha => exact MA.out.1); (case hb => exact MA.out.2); (case hc => exact (up_alloc HU1.out _).size); intro v' w4 hown hgrow hat; have HO4 : Az (w4.ownsRow w.heap.size 21 1 v' (L.length + 1) ((L ++ [c']).map (Value.int .i32))) := ⟨(congrArg (fun t => w4.ownsRow w.heap.size 21 1 v' (L.length + 1) t) (List.map_append (f := Value.int .i32) (l₁ := L) (l₂ := [c']))).mpr hown⟩; have HU4 := Az.mk ((up_alloc HU1.out (.cells #[.int .i32 c'] 21)).grown hgrow (up_alloc HU1.out (.cells #[.int .i32 c'] 21)).size (fun k hk => (((own_up HO.out HV1.out).lt k hk).1))); obtain ⟨A4, c4, hv⟩ := own_any HO4.out; subst hv; clear hown hgrow hat) | (go_at_call 27; (with_reducible refine HFC.out.mono ?_); rintro e w1 ⟨rfl, hup⟩; have HU1 := Az.mk (up_trans HU.out hup); have HV1 := Az.mk hup; clear hup))
        go_roundg k
        case measure => omega
        case rel => exact ⟨i + 1, dn, tl ++ [c'], L ++ [c'], some s, A4, c4, (dn.length : Int), max t m, by go_num, by simp, by simp, by simp, ⟨by have := HI.out; omega⟩, ⟨HM.out ▸ HC.out.some_mark HDR.out HNN.out (by rw [show classF T c' = m from HM.out]; exact HM0.out) (fun h => HZ.out (HM.out.symm.trans h))⟩, ⟨inI32_snoc HLR.out HCR.out⟩, ⟨by simpa using HO4.out⟩, HU4⟩
end Go.Proofs.YtnohcnneflogjaaGreat.M.Nm
