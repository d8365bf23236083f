/- RemapJoins, walked. (printed by mkrjoins.py) -/
import Derived.Test.YthneeainigdmhaaGreatPRemap
import Derived.Test.YthneeainigdmhaaGreatK37
set_option linter.unusedVariables false
set_option linter.unusedSimpArgs false
namespace Go.Proofs.YthneeainigdmhaaGreat.M
open Go.RowKit
set_option maxHeartbeats 16000000
set_option maxRecDepth 100000

/-- What of these is Valid. -/
def validL (T : List Rec) (l : List Int) : List Int := l.filter (fun c => statF T c == 1)
theorem valid_step (T : List Rec) (l : List Int) (i : Nat) (h : i < l.length) : validL T (l.take (i + 1)) = validL T (l.take i) ++ (if statF T (rd l i) = 1 then [rd l i] else []) := by
  unfold validL
  rw [List.take_add_one, List.getElem?_eq_getElem h, Option.toList_some, List.filter_append, rd_elem l i h]
  by_cases hs : statF T l[i] = 1 <;> simp [hs]
theorem maps_valid (T : List Rec) (fl : Int) (l : List Int) : mapsF T fl (validL T l) = validL T l := by
  unfold mapsF validL
  induction l with
  | nil => rfl
  | cons a l ih =>
    by_cases hs : statF T a = 1
    · have : oneF T fl a = [a] := by simp [oneF, hs]
      simp [List.filter_cons, hs, this] at ih ⊢
      exact ih
    · simp [List.filter_cons, hs] at ih ⊢
      exact ih
theorem valid_len (T : List Rec) (l : List Int) : (validL T l).length ≤ l.length := List.length_filter_le _ _
theorem maps_append (T : List Rec) (fl : Int) (a b : List Int) : mapsF T fl (a ++ b) = mapsF T fl a ++ mapsF T fl b := List.flatMap_append
theorem own_cap {w : World} {base : Nat} {e : TypeId} {n cap : Nat} {A : Option Addr} {xs : List Value} {size : Nat} (h : w.ownsRow base e size (.slice A n cap) n xs) : n ≤ cap := by
  obtain ⟨hlen, ⟨hv, h0⟩ | ⟨g', cap', cur, hv, hb, hh, hnc, hcm, hsz, htk⟩⟩ := h
  · omega
  · cases hv
    exact hnc
theorem RemapJoins_no (A : Option Addr) (c : Nat) (T : List Rec) (A1 : Option Addr) (n1 c1 : Nat) (A2 : Option Addr) (n2 c2 : Nat) (fl : Int) (w : World) (hT : Table w A T) (hW : ∀ x ∈ T, x.Wf) (hc : T.length ≤ c) (he : (checkE (T.take 150)).2 ≠ 0) :
    Calls Tryz.prog 13 #[.slice A T.length c, .slice A1 n1 c1, .slice A2 n2 c2, .int .i64 fl] w fun e w' => e = .returned (.bool true) ∧ Up w w' := by
  have HM := Aside0.mk (Made_no A c T w hT hW hc he)
  clear hT hW hc he
  go_enter Tryz.func13, Tryz.ntmps13
  go_wp2_with (first | (go_at_call 20; (with_reducible refine HM.out.mono ?_); rintro e w1 ⟨rfl, hup1⟩) | (go_at_call 61; (with_reducible refine (told15_calls _).mono ?_); rintro e w2 ⟨rfl, hup2⟩))
  go_ret
  exact ⟨rfl, up_trans hup1 hup2⟩
theorem RemapJoins_yes (A : Option Addr) (c : Nat) (T P : List Rec) (Ax : Option Addr) (x : List Int) (cx : Nat) (Am : Option Addr) (m : List Int) (cm : Nat) (fl : Int) (w : World) (hP : T.take 150 = P) (hT : Table w A T) (hW : ∀ x ∈ T, x.Wf) (hc : T.length ≤ c) (he : (checkE P).2 = 0)
    (hI1 : Ints .i32 w Ax x) (hx1 : x.length < 4611686018427387904) (hc1 : x.length ≤ cx) (hwf1 : ∀ z ∈ x, (Lit.int .i32 z).wf = true)
    (hI2 : Ints .i32 w Am m) (hx2 : m.length < 4611686018427387904) (hc2 : m.length ≤ cm) (hwf2 : ∀ z ∈ m, (Lit.int .i32 z).wf = true) :
    Calls Tryz.prog 13 #[.slice A T.length c, .slice Ax x.length cx, .slice Am m.length cm, .int .i64 fl] w fun e w' => e = .returned (.bool true) ∧ Up w w' := by
  have HM := Aside0.mk (Made_yes A c T P w hP hT hW hc he)
  have hWP : ∀ x ∈ P, x.Wf := fun x hx => hW x (by rw [← hP] at hx; exact List.mem_of_mem_take hx)
  have HF := Aside0.mk (fine_of hWP he)
  have HG := Aside0.mk (fine_of hWP he).toGood
  have HWP := Aside0.mk hWP
  have HPT : Aside0 (P.length ≤ 4096) := ⟨by rw [← hP, List.length_take]; omega⟩
  have HI1 := Aside0.mk hI1
  have HX1 := Aside0.mk hx1
  have HXC1 := Aside0.mk hc1
  have HWF1 := Aside0.mk hwf1
  clear hI1 hx1 hc1 hwf1
  have HI2z := Aside0.mk hI2
  have HX2z := Aside0.mk hx2
  have HXC2z := Aside0.mk hc2
  have HWF2z := Aside0.mk hwf2
  clear hI2 hx2 hc2 hwf2
  obtain ⟨a, ha⟩ : ∃ l, x.take 100 = l := ⟨_, rfl⟩
  have hla : a.length ≤ 100 := by rw [← ha, List.length_take]; omega
  have HLa : Aside0 (a.length ≤ 100000) := ⟨by omega⟩
  have HWa : Aside0 (∀ z ∈ a, (Lit.int .i32 z).wf = true) := ⟨fun v hv => HWF1.out v (by rw [← ha] at hv; exact List.mem_of_mem_take hv)⟩
  have HYa := Aside0.mk ha
  obtain ⟨ra, hra⟩ : ∃ r, mapsF P fl a = r := ⟨_, rfl⟩
  have HRa := Aside0.mk hra
  have hma : ra.length ≤ 2400 := by have := mapsF_len24 HG.out fl a; rw [hra] at this; omega
  have HRLa : Aside0 (ra.length ≤ 65536) := ⟨by omega⟩
  obtain ⟨b, hb⟩ : ∃ l, m.take 100 = l := ⟨_, rfl⟩
  have hlb : b.length ≤ 100 := by rw [← hb, List.length_take]; omega
  have HLb : Aside0 (b.length ≤ 100000) := ⟨by omega⟩
  have HWb : Aside0 (∀ z ∈ b, (Lit.int .i32 z).wf = true) := ⟨fun v hv => HWF2z.out v (by rw [← hb] at hv; exact List.mem_of_mem_take hv)⟩
  have HYb := Aside0.mk hb
  obtain ⟨rb, hrb⟩ : ∃ r, mapsF P fl b = r := ⟨_, rfl⟩
  have HRb := Aside0.mk hrb
  have hmb : rb.length ≤ 2400 := by have := mapsF_len24 HG.out fl b; rw [hrb] at this; omega
  have HRLb : Aside0 (rb.length ≤ 65536) := ⟨by omega⟩
  obtain ⟨rt, hrt⟩ : ∃ r, mapsF P fl (a ++ b) = r := ⟨_, rfl⟩
  have HRt := Aside0.mk hrt
  have hab : rt = ra ++ rb := by rw [← hrt, maps_append, hra, hrb]
  have hlt : (a ++ b).length ≤ 200 := by rw [List.length_append]; omega
  have hlr : (ra ++ rb).length ≤ 4800 := by rw [List.length_append]; omega
  have HLt : Aside0 ((a ++ b).length ≤ 100000) := ⟨by omega⟩
  have HL2 : Aside0 ((a ++ b).length ≤ 200) := ⟨hlt⟩
  have HRLt : Aside0 (rt.length ≤ 65536) := ⟨by rw [hab]; omega⟩
  have HKt : Aside0 (rt.length ≤ 35184372087808) := ⟨by rw [hab]; omega⟩
  have HKab : Aside0 ((ra.length + rb.length) ≤ 35184372087808) := ⟨by omega⟩
  have HEQ : Aside0 ((rt == ra ++ rb) = true) := ⟨by rw [hab]; simp⟩
  have HXra : Aside0 (ra.length < 4611686018427387904) := ⟨by omega⟩
  have HKra : Aside0 (ra.length ≤ 100000) := ⟨by omega⟩
  have HTra : Aside0 (ra.take ra.length = ra) := ⟨List.take_length⟩
  have HWt : Aside0 (∀ v ∈ a ++ b, (Lit.int .i32 v).wf = true) := ⟨fun v hv => (List.mem_append.1 hv).elim (HWa.out v) (HWb.out v)⟩
  have HLA : Aside0 (0 + a.length ≤ maxLen ∧ (0 + a.length) * 4 ≤ 140737488355328) := ⟨by unfold maxLen; omega⟩
  have HLB : Aside0 (a.length + b.length ≤ maxLen ∧ (a.length + b.length) * 4 ≤ 140737488355328) := ⟨by unfold maxLen; omega⟩
  have HLR : Aside0 (ra.length + rb.length ≤ maxLen ∧ (ra.length + rb.length) * 4 ≤ 140737488355328) := ⟨by unfold maxLen; omega⟩
  obtain ⟨ie, ze, hie, hze, hsi, hby, hzc⟩ := i32_info
  clear hT hW hc he hWP hP ha hb hla hlb hra hrb hma hmb hrt hab hlt hlr
  go_enter Tryz.func13, Tryz.ntmps13
  go_wp2_with (first | (at_builtin; refine (wpList_append_row _ rfl _ _ 23 rfl w5.heap.size 21 ie ze 1 4 Tryz.underlying23 hie hze hsi hby hzc (by decide) (.slice A6 a.length c6) a.length (a.map (Value.int .i32)) rfl HO6.out A5 b.length c5 (b.map (Value.int .i32)) rfl (by simp) HJ5.out (ints_one .i32 b) ?ha7 ?hb7 ?hc7 ?_); (case ha7 => exact HLB.out.1); (case hb7 => exact HLB.out.2); (case hc7 => exact HB6.out.size); intro v7 w7 hown7 hgrow7 hat7; have HO7 : Aside0 (w7.ownsRow w5.heap.size 21 1 v7 (a ++ b).length ((a ++ b).map (Value.int .i32))) := ⟨by rw [List.length_append, List.map_append]; exact hown7⟩; obtain ⟨A7, c7, hv7⟩ := own_any HO7.out; subst hv7; have HB7 := Aside0.mk (HB6.out.grown hgrow7 HB6.out.size (fun k hk => (HO6.out.lt k hk).1)); clear hown7 hgrow7 hat7) | (at_builtin; refine (wpList_append_row _ rfl _ _ 23 rfl w5.heap.size 21 ie ze 1 4 Tryz.underlying23 hie hze hsi hby hzc (by decide) _ 0 [] rfl (World.ownsRow_nil _ _ _ _) A2 a.length c2 (a.map (Value.int .i32)) rfl (by simp) HJ2.out (ints_one .i32 a) ?ha6 ?hb6 ?hc6 ?_); (case ha6 => exact HLA.out.1); (case hb6 => exact HLA.out.2); (case hc6 => exact HR5.out.size); intro v6 w6 hown6 hgrow6 hat6; have HO6 : Aside0 (w6.ownsRow w5.heap.size 21 1 v6 a.length (a.map (Value.int .i32))) := ⟨by rw [Nat.zero_add, List.nil_append] at hown6; exact hown6⟩; obtain ⟨A6, c6, hv6⟩ := own_any HO6.out; rw [hv6] at HO6; have hz6 : 0 + a.length = a.length := Nat.zero_add _; subst hv6; have HB6 := Aside0.mk (HR5.out.grown hgrow6 HR5.out.size (fun k hk => by cases hk)); clear hown6 hgrow6 hat6; have HJ5 := Aside0.mk (HI5.out.up HB6.out)) | (go_at_call 62; (with_reducible refine (few15_at Am cm m b 100 100 rfl _ (HI2z.out.up (up_trans HU1.out HB2.out)) HX2z.out HXC2z.out (by decide) HYb.out).mono ?_); rintro e w5 ⟨v5, rfl, hown5, hup5⟩; obtain ⟨A5, c5, rfl, hi5, _⟩ := own_ints hown5; have HB5 := Aside0.mk (up_trans HB2.out hup5); have HS5 := Aside0.mk hup5; have HI5 := Aside0.mk hi5; clear hown5 hup5 hi5; have HJ2 := Aside0.mk (HI2.out.up HS5.out); have HR5 := Aside0.mk (up_refl w5)) | (go_at_call 62; (with_reducible refine (few15_at Ax cx x a 100 100 rfl _ (HI1.out.up HU1.out) HX1.out HXC1.out (by decide) HYa.out).mono ?_); rintro e w2 ⟨v2, rfl, hown2, hup2⟩; obtain ⟨A2, c2, rfl, hi2, _⟩ := own_ints hown2; have HB2 := Aside0.mk (up_trans (up_refl w1) hup2); have HS2 := Aside0.mk hup2; have HI2 := Aside0.mk hi2; clear hown2 hup2 hi2) | (go_at_call 20; (with_reducible refine HM.out.mono ?_); rintro e w1 ⟨bd, D, A3, c3, rfl, hD, hTab, hup1⟩; have HD := Aside0.mk hD; have HT := Aside0.mk hTab; have HU1 := Aside0.mk hup1; clear hD hTab hup1))
  have HI7 : Aside0 (Ints .i32 w7 A7 (a ++ b)) := ⟨by obtain ⟨_, _, he, hi, _⟩ := own_ints HO7.out; cases he; exact hi⟩
  obtain ⟨t, ht⟩ : ∃ t, a ++ b = t := ⟨_, rfl⟩
  have htl : a.length + b.length = t.length := by rw [← ht, List.length_append]
  rw [ht] at HI7 HRt HLt HWt HL2
  rw [htl]
  clear ht htl
  obtain ⟨wb, hwb⟩ : ∃ wb, wb = w7 := ⟨_, rfl⟩
  subst hwb
  have HSF : Aside0 (∀ (ad : Addr) (i : Nat) (a1 : Int) (W : World), Up wb W → wb.cell? (ad.add i) = some (.int .i32 a1) → W.cell? ⟨bd, 0, none⟩ = some (.pointer (some ⟨D.b1, 0, none⟩)) ∧ W.cell? ⟨bd, 1, none⟩ = some (.pointer (some ⟨D.b2, 0, none⟩)) ∧ W.cell? ⟨bd, 2, none⟩ = some (.slice D.A1 D.n1 D.c1) ∧ W.cell? (ad.add i) = some (.int .i32 a1)) := ⟨fun ad i a1 W hu hca => by
    have ha := (HD.out.up (up_trans HB5.out (up_trans HB7.out hu))).all.1
    exact ⟨ha.1, ha.2.1, ha.2.2.1, up_cell hu hca⟩⟩
  go_loopg [15, 16] t.length (fun k v15 v16 w' => ∃ (i : Nat) (q : List Int) (Aq : Option Addr) (cq : Nat), v15 = .slice Aq q.length cq ∧ v16 = .int .i64 i ∧ Aside0 (i + k = t.length) ∧ Aside0 (validL P (t.take i) = q) ∧ Aside0 (w'.ownsRow wb.heap.size 21 1 (.slice Aq q.length cq) q.length (q.map (Value.int .i32))) ∧ Aside0 (Up wb w'))
  case atStart => exact ⟨0, [], none, 0, rfl, rfl, ⟨Nat.zero_add _⟩, ⟨rfl⟩, ⟨World.ownsRow_nil _ _ _ _⟩, ⟨up_refl _⟩⟩
  case round =>
    obtain ⟨i, q, Aq, cq, rfl, rfl, HNI, HQ, HOQ, HB⟩ := hrel
    cases gk with
    | zero =>
      have hlt : decide ((i : Int) < (t.length : Int)) = false := decide_eq_false (by have := HNI.out; omega)
      have hlt1 : ¬ (i < t.length) := by have := HNI.out; omega
      have hqt : q = validL P t := by rw [← HQ.out, List.take_of_length_le (by omega)]
      have hql : q.length ≤ 200 := by rw [hqt]; exact Nat.le_trans (valid_len P t) HL2.out
      have HLq : Aside0 (q.length ≤ 100000) := ⟨by omega⟩
      have HRLq : Aside0 (q.length ≤ 65536) := ⟨by omega⟩
      have HKq : Aside0 (q.length ≤ 35184372087808) := ⟨by omega⟩
      have HQQ : Aside0 ((q == q) = true) := ⟨by simp⟩
      have HRq : Aside0 (mapsF P fl q = q) := ⟨by rw [hqt]; exact maps_valid P fl t⟩
      have HWq : Aside0 (∀ v ∈ q, (Lit.int .i32 v).wf = true) := ⟨fun v hv => HWt.out v (by rw [hqt] at hv; exact (List.mem_filter.1 hv).1)⟩
      have HIq : Aside0 (Ints .i32 wr Aq q) := ⟨by obtain ⟨_, _, he, hi, _⟩ := own_ints HOQ.out; cases he; exact hi⟩
      clear hqt hql
      go_wp2_with (first | (go_at_call 65; (with_reducible refine (Settled_calls (HD.out.up (up_trans HB5.out (up_trans HB7.out HV18.out))) HG.out Aq cq q _ rfl fl (HIq.out.up (up_trans HN11.out (up_trans HN12.out (up_trans HN13.out (up_trans HN14.out HN18.out))))) HLq.out HWq.out q HRq.out HRLq.out true HQQ.out).mono ?_); rintro e w19 ⟨rfl, hup19⟩; have HV19 := Aside0.mk (up_trans HV18.out hup19); clear hup19) | (go_at_call 30; (with_reducible refine (SameB_calls A14 Aq c14 cq q q _ (HI14.out.up HN17.out) (HIq.out.up (up_trans HN11.out (up_trans HN12.out (up_trans HN13.out (up_trans HN14.out HN17.out))))) HKq.out HKq.out true HQQ.out).mono ?_); rintro e w18 ⟨rfl, hup18⟩; have HV18 := Aside0.mk (up_trans HV17.out hup18); have HN18 := Aside0.mk (up_trans HN17.out hup18); clear hup18) | (go_at_call 30; (with_reducible refine (SameN_calls A13 A16 _ _ c13 c16 rt (ra ++ rb) _ (HI13.out.up (up_trans HN14.out HB16.out)) HI16.out rfl (by rw [List.length_append]) HKt.out HKab.out true HEQ.out).mono ?_); rintro e w17 ⟨rfl, hup17⟩; have HV17 := Aside0.mk (up_trans HV16.out hup17); have HN17 := Aside0.mk (up_trans HB16.out hup17); clear hup17) | (at_builtin; refine (wpList_append_row _ rfl _ _ 23 rfl w14.heap.size 21 ie ze 1 4 Tryz.underlying23 hie hze hsi hby hzc (by decide) (.slice A15 ra.length c15) ra.length (ra.map (Value.int .i32)) rfl HO15.out A12 rb.length c12 (rb.map (Value.int .i32)) rfl (by simp) HJ12.out (ints_one .i32 rb) ?ha16 ?hb16 ?hc16 ?_); (case ha16 => exact HLR.out.1); (case hb16 => exact HLR.out.2); (case hc16 => exact HN15.out.size); intro v16 w16 hown16 hgrow16 hat16; have HO16 : Aside0 (w16.ownsRow w14.heap.size 21 1 v16 (ra ++ rb).length ((ra ++ rb).map (Value.int .i32))) := ⟨by rw [List.length_append, List.map_append]; exact hown16⟩; obtain ⟨A16, c16, hv16⟩ := own_any HO16.out; subst hv16; have HB16 := Aside0.mk (HN15.out.grown hgrow16 HN15.out.size (fun k hk => (HO15.out.lt k hk).1)); clear hown16 hgrow16 hat16; have HI16 : Aside0 (Ints .i32 w16 A16 (ra ++ rb)) := ⟨by obtain ⟨_, _, he, hi, _⟩ := own_ints HO16.out; cases he; exact hi⟩; have HV16 := Aside0.mk (up_trans HB14.out HB16.out)) | (go_at_call 62; (with_reducible refine (few15_at A11 c11 ra ra _ ra.length rfl _ (HI11.out.up (up_trans HN12.out (up_trans HN13.out HN14.out))) HXra.out HC11.out HKra.out HTra.out).mono ?_); rintro e w15 ⟨v15, rfl, hown15, hup15⟩; have HO15 := Aside0.mk hown15; obtain ⟨A15, c15, rfl, hi15, _⟩ := own_ints hown15; have HB15 := Aside0.mk (up_trans HB14.out hup15); have HN15 := Aside0.mk hup15; have HJ12 := Aside0.mk (HI12.out.up (up_trans HN13.out (up_trans HN14.out hup15))); clear hown15 hup15 hi15) | (go_at_call 63; (with_reducible refine (Map_ok (HD.out.up (up_trans HB5.out (up_trans HB7.out HB13.out))) HG.out Aq cq q _ rfl fl (HIq.out.up (up_trans HN11.out (up_trans HN12.out HN13.out))) HLq.out HWq.out q HRq.out HRLq.out).mono ?_); rintro e w14 ⟨v14, rfl, hown14, hup14⟩; obtain ⟨A14, c14, rfl, hi14, _⟩ := own_ints hown14; have HB14 := Aside0.mk (up_trans HB13.out hup14); have HN14 := Aside0.mk hup14; have HI14 := Aside0.mk hi14; clear hown14 hup14 hi14) | (go_at_call 63; (with_reducible refine (Map_ok (HD.out.up (up_trans HB5.out (up_trans HB7.out HB12.out))) HG.out A7 c7 t _ rfl fl (HI7.out.up HB12.out) HLt.out HWt.out rt HRt.out HRLt.out).mono ?_); rintro e w13 ⟨v13, rfl, hown13, hup13⟩; obtain ⟨A13, c13, rfl, hi13, _⟩ := own_ints hown13; have HB13 := Aside0.mk (up_trans HB12.out hup13); have HN13 := Aside0.mk hup13; have HI13 := Aside0.mk hi13; clear hown13 hup13 hi13) | (go_at_call 63; (with_reducible refine (Map_ok (HD.out.up (up_trans HB5.out (up_trans HB7.out HB11.out))) HG.out A5 c5 b _ rfl fl (HI5.out.up (up_trans HB7.out HB11.out)) HLb.out HWb.out rb HRb.out HRLb.out).mono ?_); rintro e w12 ⟨v12, rfl, hown12, hup12⟩; obtain ⟨A12, c12, rfl, hi12, _⟩ := own_ints hown12; have HB12 := Aside0.mk (up_trans HB11.out hup12); have HN12 := Aside0.mk hup12; have HI12 := Aside0.mk hi12; clear hown12 hup12 hi12) | (go_at_call 63; (with_reducible refine (Map_ok (HD.out.up (up_trans HB5.out (up_trans HB7.out HB.out))) HG.out A2 c2 a _ rfl fl (HI2.out.up (up_trans HS5.out (up_trans HB7.out HB.out))) HLa.out HWa.out ra HRa.out HRLa.out).mono ?_); rintro e w11 ⟨v11, rfl, hown11, hup11⟩; obtain ⟨A11, c11, rfl, hi11, _⟩ := own_ints hown11; have HC11 := Aside0.mk (own_cap hown11); have HB11 := Aside0.mk (up_trans HB.out hup11); have HN11 := Aside0.mk hup11; have HI11 := Aside0.mk hi11; clear hown11 hup11 hi11))
      go_ret
      exact ⟨rfl, up_trans HU1.out (up_trans HB5.out (up_trans HB7.out HV19.out))⟩
    | succ k =>
      have hlt : decide ((i : Int) < (t.length : Int)) = true := decide_eq_true (by have := HNI.out; omega)
      have hlt1 : i < t.length := by have := HNI.out; omega
      have h9 : (i : Int) < (t.length : Int) := by omega
      have h8 : (t.length : Int) ≤ 200 := by have := HL2.out; omega
      have h7 : 0 ≤ (i : Int) := by omega
      have HVS : Aside0 (validL P (t.take (i + 1)) = q ++ (if statF P (rd t i) = 1 then [rd t i] else [])) := ⟨by rw [valid_step P t i hlt1, HQ.out]⟩
      have HQL : Aside0 (q.length ≤ 200) := ⟨by rw [← HQ.out]; exact Nat.le_trans (valid_len _ _) (by rw [List.length_take]; have := HL2.out; omega)⟩
      have HLEN : Aside0 (q.length + 1 ≤ maxLen ∧ (q.length + 1) * 4 ≤ 140737488355328) := ⟨by have := HQL.out; unfold maxLen; omega⟩
      obtain ⟨ad, hAa1, hca1⟩ := HI7.out.at_ i (by omega) (by omega)
      rw [Int.toNat_natCast] at hca1
      cases hAa1
      have HAWa1 : Aside0 ((Lit.int .i32 (rd t i)).wf = true) := ⟨by rw [rd_elem t i (by omega)]; exact HWt.out _ (List.getElem_mem _)⟩
      have HARa1 := Aside0.mk (wf_i32 HAWa1.out)
      obtain ⟨a1, hxa1⟩ : ∃ a1, rd t i = a1 := ⟨_, rfl⟩
      have HXa1 := Aside0.mk hxa1
      rw [hxa1] at hca1 HARa1 HAWa1
      have HCa1 := Aside0.mk hca1
      replace hca1 := up_cell HB.out hca1
      clear hxa1
      rw [HXa1.out] at HVS
      obtain ⟨vs, hst⟩ : ∃ v, statF P a1 = v := ⟨_, rfl⟩
      have HST := Aside0.mk hst
      rw [hst] at HVS
      clear hst
      have hs0 : wr.drew.cell? ⟨bd, 0, none⟩ = some (.pointer (some ⟨D.b1, 0, none⟩)) ∧ wr.drew.cell? ⟨bd, 1, none⟩ = some (.pointer (some ⟨D.b2, 0, none⟩)) ∧ wr.drew.cell? ⟨bd, 2, none⟩ = some (.slice D.A1 D.n1 D.c1) ∧ wr.drew.cell? (ad.add i) = some (.int .i32 a1) := HSF.out ad i a1 _ (up_drew HB.out) HCa1.out
      by_cases hv1 : vs = 1
      · subst hv1
        go_wp2
        go_region_held3 (fun w' => w'.cell? ⟨bd, 0, none⟩ = some (.pointer (some ⟨D.b1, 0, none⟩)) ∧ w'.cell? ⟨bd, 1, none⟩ = some (.pointer (some ⟨D.b2, 0, none⟩)) ∧ w'.cell? ⟨bd, 2, none⟩ = some (.slice D.A1 D.n1 D.c1) ∧ w'.cell? (ad.add i) = some (.int .i32 a1)) (first | exact hs0 | exact hs1) (first | (go_at_call 28; (with_reducible refine ((HD.out.up (up_trans HB5.out (up_trans HB7.out (up_drew HB.out)))).Status a1 1 HST.out HARa1.out.1 HARa1.out.2).mono ?_); rintro e w8 ⟨rfl, hup8⟩; have HB8 := Aside0.mk (up_trans (up_drew HB.out) hup8); have HS8 := Aside0.mk (up_trans (up_drew (up_refl wr)) hup8); have hs1 : w8.cell? ⟨bd, 0, none⟩ = some (.pointer (some ⟨D.b1, 0, none⟩)) ∧ w8.cell? ⟨bd, 1, none⟩ = some (.pointer (some ⟨D.b2, 0, none⟩)) ∧ w8.cell? ⟨bd, 2, none⟩ = some (.slice D.A1 D.n1 D.c1) ∧ w8.cell? (ad.add i) = some (.int .i32 a1) := HSF.out ad i a1 _ HB8.out HCa1.out; clear hup8))
        have hca5 := hs1.2.2.2
        have HOQ5 := Aside0.mk (own_up HOQ.out HS8.out)
        go_wp2_with (first | (at_builtin; refine (wpList_append_row _ rfl _ _ 23 rfl wb.heap.size 21 ie ze 1 4 Tryz.underlying23 hie hze hsi hby hzc (by decide) (.slice Aq q.length cq) q.length (q.map (Value.int .i32)) rfl (HOQ5.out.alloc _) (some ⟨w8.heap.size, 0, none⟩) 1 1 [.int .i32 a1] rfl rfl (cells_one _ _ _) (ints_one .i32 [a1]) ?ha9 ?hb9 ?hc9 ?_); (case ha9 => exact HLEN.out.1); (case hb9 => exact HLEN.out.2); (case hc9 => exact Nat.le_trans HB8.out.size (up_alloc (up_refl _) _).size); intro v9 w9 hown9 hgrow9 hat9; have HO9 : Aside0 (w9.ownsRow wb.heap.size 21 1 v9 (q ++ [a1]).length ((q ++ [a1]).map (Value.int .i32))) := ⟨by rw [List.length_append, List.map_append]; exact hown9⟩; obtain ⟨A9, c9, hv9⟩ := own_any HO9.out; subst hv9; have HB9 := Aside0.mk ((up_alloc HB8.out (.cells #[.int .i32 a1] 21)).grown hgrow9 (up_alloc HB8.out (.cells #[.int .i32 a1] 21)).size (fun k hk => (HOQ5.out.lt k hk).1)); clear hown9 hgrow9 hat9))
        go_roundg k
        case measure => have := HNI.out; omega
        case rel => exact ⟨i + 1, q ++ [a1], A9, c9, by simp, rfl, ⟨by have := HNI.out; omega⟩, ⟨by rw [HVS.out]; simp⟩, HO9, HB9⟩
      · have e1 : (vs == 1) = false := beq_eq_false_iff_ne.mpr hv1
        have HV1 := Aside0.mk hv1
        clear hv1
        go_wp2
        go_region_held3 (fun w' => w'.cell? ⟨bd, 0, none⟩ = some (.pointer (some ⟨D.b1, 0, none⟩)) ∧ w'.cell? ⟨bd, 1, none⟩ = some (.pointer (some ⟨D.b2, 0, none⟩)) ∧ w'.cell? ⟨bd, 2, none⟩ = some (.slice D.A1 D.n1 D.c1) ∧ w'.cell? (ad.add i) = some (.int .i32 a1)) (first | exact hs0 | exact hs1) (first | (go_at_call 28; (with_reducible refine ((HD.out.up (up_trans HB5.out (up_trans HB7.out (up_drew HB.out)))).Status a1 vs HST.out HARa1.out.1 HARa1.out.2).mono ?_); rintro e w8 ⟨rfl, hup8⟩; have HB8 := Aside0.mk (up_trans (up_drew HB.out) hup8); have HS8 := Aside0.mk (up_trans (up_drew (up_refl wr)) hup8); have hs1 : w8.cell? ⟨bd, 0, none⟩ = some (.pointer (some ⟨D.b1, 0, none⟩)) ∧ w8.cell? ⟨bd, 1, none⟩ = some (.pointer (some ⟨D.b2, 0, none⟩)) ∧ w8.cell? ⟨bd, 2, none⟩ = some (.slice D.A1 D.n1 D.c1) ∧ w8.cell? (ad.add i) = some (.int .i32 a1) := HSF.out ad i a1 _ HB8.out HCa1.out; clear hup8))
        go_wp2
        go_roundg k
        case measure => have := HNI.out; omega
        case rel => exact ⟨i + 1, q, Aq, cq, rfl, rfl, ⟨by have := HNI.out; omega⟩, ⟨by rw [HVS.out, if_neg HV1.out, List.append_nil]⟩, ⟨own_up HOQ.out HS8.out⟩, HB8⟩
end Go.Proofs.YthneeainigdmhaaGreat.M
