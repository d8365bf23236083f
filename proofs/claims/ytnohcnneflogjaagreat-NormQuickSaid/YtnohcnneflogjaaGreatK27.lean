/- newForms, walked. -/
import Derived.Test.YtnohcnneflogjaaGreatK26
import Derived.Test.YtnohcnneflogjaaGreatK10
import Derived.Handy
set_option maxHeartbeats 16000000
set_option maxRecDepth 100000
set_option linter.unusedVariables false
set_option linter.unusedSimpArgs false
namespace Go.Proofs.YtnohcnneflogjaaGreat.M
open Go.RowKit
theorem formsP_start {H : Nat} {w : World} {bo bf bl bc bs : Nat} {T : List Rec} (h : FormsP H w bo bf bl bc bs 0 T []) : FormsP H w bo bf bl bc bs (4 * 0) T (T.take 0) := h
theorem formsO_cells {w : World} {g bo bf bl bc bs : Nat} (h : w.heap[g]? = some (formsO bo bf bl bc bs)) : w.cell? ⟨g, 0, none⟩ = some (.map (some bo)) ∧ w.cell? ⟨g, 1, none⟩ = some (.map (some bf)) ∧ w.cell? ⟨g, 2, none⟩ = some (.map (some bl)) ∧ w.cell? ⟨g, 3, none⟩ = some (.map (some bc)) ∧ w.cell? ⟨g, 4, none⟩ = some (.map (some bs)) := by
 unfold formsO at h
 refine ⟨?_, ?_, ?_, ?_, ?_⟩ <;> simp [World.cell?, h]
theorem grown_block {w w' : World} {o : Option Nat} (h : w.grownBy w' o) {g : Nat} {x : Obj} (hg : w.heap[g]? = some x) (hne : some g ≠ o) : w'.heap[g]? = some x := by
 rw [h.block g (Array.getElem?_eq_some_iff.1 hg).1 hne]
 exact hg
theorem formsP_skip {H : Nat} {w : World} {bo bf bl bc bs i : Nat} {T : List Rec} {x : Rec} (h : FormsP H w bo bf bl bc bs (4 * i) T (T.take i)) (hx : T[i]? = some x) (h3 : fam x.kind ≠ 3) (h8 : fam x.kind ≠ 8) : FormsP H w bo bf bl bc bs (4 * (i + 1)) T (T.take (i + 1)) :=
 (h.mono (by omega)).congr (fun c => (rowG_skip _ hx h3 c).symm) (fun c => (rowG_skip _ hx h3 c).symm) (fun c => (rowG_skip _ hx h8 c).symm) (fun p => (compG_skip hx (fun e => h3 (by rw [e]; rfl)) p).symm) (fun c => (secG_skip hx (fun e => h3 (by rw [e]; rfl)) c).symm)
theorem formsP_looks {H : Nat} {w : World} {bo bf bl bc bs i : Nat} {T : List Rec} {x : Rec} (hF : Fine T) (hx : T[i]? = some x) (hk : x.kind = 13)
 (h : FormsAt H w bo bf bl bc bs (4 * i + 1) (rowG (T.take i) 3 (·.to)) (rowG (T.take i) 3 (fun x => fullL T x.lo)) (putG (rowG (T.take i) 8 (·.to)) x.lo x.to) (compG (T.take i)) (secG (T.take i))) : FormsP H w bo bf bl bc bs (4 * (i + 1)) T (T.take (i + 1)) := by
 have hR := hF.right x (List.mem_of_getElem? hx)
 have hf : fam x.kind = 8 := by rw [hk]; rfl
 refine (h.mono (by omega)).congr (fun c => (rowG_skip _ hx (by rw [hf]; decide) c).symm) (fun c => (rowG_skip _ hx (by rw [hf]; decide) c).symm) (fun c => ?_) (fun p => (compG_skip hx (by rw [hk]; decide) p).symm) (fun c => (secG_skip hx (by rw [hk]; decide) c).symm)
 rw [rowG_step hF.toGood _ hx hf (by decide) (hR.oneOf (by omega)) (by omega) c]
 rfl
theorem formsP_opens {H : Nat} {w : World} {bo bf bl bc bs i : Nat} {T : List Rec} {x : Rec} (hF : Fine T) (hx : T[i]? = some x) (hk : x.kind = 8)
 (h : FormsAt H w bo bf bl bc bs (4 * i + 1 + 1) (putG (rowG (T.take i) 3 (·.to)) x.lo x.to) (putG (rowG (T.take i) 3 (fun x => fullL T x.lo)) x.lo (fullL T x.lo)) (rowG (T.take i) 8 (·.to)) (compG (T.take i)) (secG (T.take i))) : FormsP H w bo bf bl bc bs (4 * (i + 1)) T (T.take (i + 1)) := by
 have hR := hF.right x (List.mem_of_getElem? hx)
 have hf : fam x.kind = 3 := by rw [hk]; rfl
 refine (h.mono (by omega)).congr (fun c => ?_) (fun c => ?_) (fun c => (rowG_skip _ hx (by rw [hf]; decide) c).symm) (fun p => (compG_skip hx (by rw [hk]; decide) p).symm) (fun c => (secG_skip hx (by rw [hk]; decide) c).symm)
 ·rw [rowG_step hF.toGood _ hx hf (by decide) (hR.oneOf (by omega)) (by omega) c]
  rfl
 ·rw [rowG_step hF.toGood _ hx hf (by decide) (hR.oneOf (by omega)) (by omega) c]
  rfl
theorem formsP_decomp {H : Nat} {w : World} {bo bf bl bc bs i : Nat} {T : List Rec} {x : Rec} (hF : Fine T) (hx : T[i]? = some x) (hk : x.kind = 7) {a b : Int} (hab : x.to = [a, b])
 (h : FormsAt H w bo bf bl bc bs (4 * i + 1 + 1 + 1 + 1) (putG (rowG (T.take i) 3 (·.to)) x.lo x.to) (putG (rowG (T.take i) 3 (fun x => fullL T x.lo)) x.lo (fullL T x.lo)) (rowG (T.take i) 8 (·.to)) (putV (compG (T.take i)) (a, b) (.int .i32 x.lo)) (putV (secG (T.take i)) b (.int .i64 1))) : FormsP H w bo bf bl bc bs (4 * (i + 1)) T (T.take (i + 1)) := by
 have hR := hF.right x (List.mem_of_getElem? hx)
 have hf : fam x.kind = 3 := by rw [hk]; rfl
 have ra : rd x.to 0 = a := by rw [hab]; rfl
 have rb : rd x.to 1 = b := by rw [hab]; rfl
 refine (h.mono (by omega)).congr (fun c => ?_) (fun c => ?_) (fun c => (rowG_skip _ hx (by rw [hf]; decide) c).symm) (fun p => ?_) (fun c => ?_)
 ·rw [rowG_step hF.toGood _ hx hf (by decide) (hR.oneOf (by omega)) (by omega) c]
  rfl
 ·rw [rowG_step hF.toGood _ hx hf (by decide) (hR.oneOf (by omega)) (by omega) c]
  rfl
 ·rw [compG_step hF hx hk p, ra, rb]
  by_cases hp : p = (a, b) <;> simp [putV, hp]
 ·rw [secG_step hx hk c, rb]
  by_cases hp : c = b <;> simp [putV, hp]
theorem formsO0_cells {w : World} {g : Nat} (h : w.heap[g]? = some formsO0) : (w.cell? ⟨g, 0, none⟩ = some (.map none) ∧ w.cell? ⟨g, 1, none⟩ = some (.map none) ∧ w.cell? ⟨g, 2, none⟩ = some (.map none) ∧ w.cell? ⟨g, 3, none⟩ = some (.map none) ∧ w.cell? ⟨g, 4, none⟩ = some (.map none)) ∧
 w.frozen? ⟨g, 0, none⟩ = false ∧ w.frozen? ⟨g, 1, none⟩ = false ∧ w.frozen? ⟨g, 2, none⟩ = false ∧ w.frozen? ⟨g, 3, none⟩ = false ∧ w.frozen? ⟨g, 4, none⟩ = false := by
 unfold formsO0 at h
 refine ⟨⟨?_, ?_, ?_, ?_, ?_⟩, ?_, ?_, ?_, ?_, ?_⟩ <;> simp [World.cell?, World.frozen?, h]
def formsRet (w : World) (g bo bf bl bc bs : Nat) : World := ((((w.setCell ⟨g, 0, none⟩ (.map (some bo))).setCell ⟨g, 1, none⟩ (.map (some bf))).setCell ⟨g, 2, none⟩ (.map (some bl))).setCell ⟨g, 3, none⟩ (.map (some bc))).setCell ⟨g, 4, none⟩ (.map (some bs))
theorem formsRet_ok {w : World} {g : Nat} (bo bf bl bc bs : Nat) (h : w.heap[g]? = some formsO0) : (formsRet w g bo bf bl bc bs).heap[g]? = some (formsO bo bf bl bc bs) ∧ Chg (fun k => k = g) w (formsRet w g bo bf bl bc bs) := by
 unfold formsRet
 refine ⟨?_, ?_⟩
 ·rw [box_set (box_set (box_set (box_set (box_set h 0 _) 1 _) 2 _) 3 _) 4 _]
  rfl
 ·exact ((((Chg.of_set (M := fun k => k = g) w _ _ rfl).trans (Chg.of_set (M := fun k => k = g) _ _ _ rfl) (fun _ h => .inl h)).trans (Chg.of_set (M := fun k => k = g) _ _ _ rfl) (fun _ h => .inl h)).trans (Chg.of_set (M := fun k => k = g) _ _ _ rfl) (fun _ h => .inl h)).trans (Chg.of_set (M := fun k => k = g) _ _ _ rfl) (fun _ h => .inl h)
theorem up_block {w w' : World} (h : Up w w') {g : Nat} {o : Obj} (hg : w.heap[g]? = some o) : w'.heap[g]? = some o := (h.block g (Array.getElem?_eq_some_iff.1 hg).1).trans hg
theorem grown_rec {w w' : World} {o : Option Nat} {b : Nat} {x : Rec} {A : Option Addr} {c : Nat} (h : w.grownBy w' o) (hr : RecBox w b x A c) (hne : some b ≠ o) : RecBox w' b x A c :=
 recBox_chg hr (Chg.of_grown (M := fun q => o = some q) h (fun q e => e)) (fun e => hne e.symm)
theorem full_ok (A : Option Addr) (c : Nat) (T : List Rec) (d : Int) (l : List Int) (w : World) (hT : Table w A T) (hF : Fine T) (hd1 : -2147483648 ≤ d) (hd2 : d ≤ 2147483647) (hl : fullF T d = .ok l) :
 Calls Tryz.prog 161 #[.slice A T.length c, .int .i32 d] w fun e w' => ∃ A' c', e = .returned (.tuple #[.slice A' l.length c', .int .i64 0]) ∧ Ints .i32 w' A' l ∧ (∀ a, A' = some a → w.heap.size ≤ a.block) ∧ Up w w' := by
 have h := Full_calls A c T d w hT hF.right hF.wf hF.len hd1 hd2
 rw [hl] at h
 refine h.mono ?_
 rintro e w' ⟨v, rfl, hown, hup, _⟩
 obtain ⟨A', c', rfl, hi, _⟩ := own_ints hown
 exact ⟨A', c', rfl, hi, fun a ha => (own_lt_some hown ha).1, hup⟩
theorem own_lt_some' {w : World} {base : Nat} {g n cap m : Nat} {e : TypeId} {size : Nat} {xs : List Value} (h : w.ownsRow base e size (.slice (some ⟨g, 0, none⟩) n cap) m xs) : base ≤ g := (h.lt g rfl).1
theorem up_nil {w w' : World} {v : Value} (h : w.grownBy w' v.ownBlock) (hv : v.ownBlock = none) : Up w w' := Below.grown (up_refl _) h (Nat.le_refl _) (fun k hk => by rw [hv] at hk; cases hk)
theorem row_ints {w : World} {base g n cap : Nat} {l : List Int} (h : w.ownsRow base 21 1 (.slice (some ⟨g, 0, none⟩) n cap) (0 + l.length) ([] ++ l.map (Value.int .i32))) : Ints .i32 w (some ⟨g, 0, none⟩) l := by
 rw [Nat.zero_add, List.nil_append] at h
 obtain ⟨A, c, hv, hi, _⟩ := own_ints h
 injection hv with e1 e2 e3
 rw [e1]
 exact hi
theorem newForms_calls (A : Option Addr) (c : Nat) (T : List Rec) (w : World) (hT : Table w A T) (hF : Fine T) :
 Calls Tryz.prog 124 #[.slice A T.length c] w fun e w' => ∃ bo bf bl bc bs m, e = .returned (.agg #[.map (some bo), .map (some bf), .map (some bl), .map (some bc), .map (some bs)]) ∧ FormsP (w.heap.size + 1) w' bo bf bl bc bs m T T ∧ Up w w' := by
 have hu96 := Tryz.underlying113
 have hmm := @run_makeMap Tryz.prog
 have HT := Az.mk hT
 have HF := Az.mk hF
 have hl := hF.len
 clear hT hF
 go_enter Tryz.func124, Tryz.ntmps124
 go_wp2
 generalize e1 : w.heap.size + 1 = bo
 generalize e2 : bo + 1 = bf
 generalize e3 : bf + 1 = bl
 generalize e4 : bl + 1 = bc
 generalize e5 : bc + 1 = bs
 generalize e6 : bs + 1 = gf
 change Code.wp _ _ _ _ (formsW0 w bo bf bl bc bs)
 obtain ⟨hup0, hret0, hbox0, hfp0⟩ := formsW0_ok w bo bf bl bc bs gf e1 e2 e3 e4 e5 e6 T
 have HUP0 := Az.mk hup0
 have HRET0 := Az.mk hret0
 have HBOX0 := Az.mk hbox0
 have HFP0 := Az.mk hfp0
 have HGF : Az (w.heap.size < gf) := ⟨by omega⟩
 have HBB : Az (w.heap.size < bo ∧ bs < gf) := ⟨by omega⟩
 clear hmm hup0 hret0 hbox0 hfp0 e1 e2 e3 e4 e5 e6
 generalize formsW0 w bo bf bl bc bs = W0 at *
 go_loopg [15] T.length (fun k v15 w' => ∃ i : Nat, v15 = .int .i64 i ∧ Az (i + k = T.length) ∧ Az (Up w w') ∧ Az (w'.heap[w.heap.size]? = some formsO0 ∧ w'.heap[gf]? = some (formsO bo bf bl bc bs)) ∧ Az (FormsP (w.heap.size + 1) w' bo bf bl bc bs (4 * i) T (T.take i)))
 case atStart => exact ⟨0, rfl, ⟨Nat.zero_add _⟩, HUP0, ⟨HRET0.out, HBOX0.out⟩, ⟨formsP_start HFP0.out⟩⟩
 case round =>
  clear HUP0 HRET0 HBOX0 HFP0
  obtain ⟨i, rfl, HI, HB, HBX, HFP⟩ := hrel
  have hi := HI.out
  cases gk with
  | zero =>
    have hlt : decide ((i : Int) < (T.length : Int)) = false := dFz (by omega)
    have hln : decide (i < T.length) = false := dFz (by omega)
    have hfull : T.take i = T := List.take_of_length_le (by omega)
    have HFP2 : Az (FormsP (w.heap.size + 1) wr bo bf bl bc bs (4 * i) T T) := ⟨by have := HFP.out; rwa [hfull] at this⟩
    obtain ⟨c0, c1, c2, c3, c4⟩ := formsO_cells HBX.out.2
    obtain ⟨⟨d0, d1, d2, d3, d4⟩, z0, z1, z2, z3, z4⟩ := formsO0_cells HBX.out.1
    clear hi hfull HFP
    go_wp2
    obtain ⟨hq, hch⟩ := formsRet_ok bo bf bl bc bs HBX.out.1
    change bodyPost _ _ _ _ _ (formsRet wr w.heap.size bo bf bl bc bs)
    have HUPR : Az (Up w (formsRet wr w.heap.size bo bf bl bc bs)) := ⟨((Chg.of_up (M := fun k => k = w.heap.size) HB.out).trans hch (fun k h => .inl h)).below (Nat.le_refl _) (fun k hk => by omega)⟩
    have HFPR : Az (FormsP (w.heap.size + 1) (formsRet wr w.heap.size bo bf bl bc bs) bo bf bl bc bs (4 * i) T T) := ⟨HFP2.out.chg hch (fun k hk => .inl (by subst hk; omega))⟩
    generalize formsRet wr w.heap.size bo bf bl bc bs = wz at *
    refine bodyPost_ret (results_cell_row rfl _ _ w.heap.size _ _ _ _ rfl hq Tryz.underlying47 rfl (by kernel_rfl)) rfl ?_
    exact ⟨bo, bf, bl, bc, bs, 4 * i, rfl, HFPR.out, HUPR.out⟩
  | succ k =>
    have hlt : decide ((i : Int) < (T.length : Int)) = true := dTz (by omega)
    have hln : decide (i < T.length) = true := dTz (by omega)
    have p1 : 0 ≤ (i : Int) := by omega
    have p2 : (i : Int) < (T.length : Int) := by omega
    have hx : T[i]? = some T[i] := List.getElem?_eq_getElem (by omega)
    obtain ⟨x, hxx⟩ : ∃ x, T[i]'(by omega) = x := ⟨_, rfl⟩
    rw [hxx] at hx
    have HR : Az (Right x) := ⟨by rw [← hxx]; exact HF.out.right _ (List.getElem_mem _)⟩
    have HW : Az x.Wf := ⟨by rw [← hxx]; exact HF.out.wf _ (List.getElem_mem _)⟩
    have hlo := HR.out.low
    have hwr : wrap32 x.lo = x.lo := by unfold wrap32; omega
    have HLO : Az ((Lit.int .i32 x.lo).wf = true ∧ -2147483648 ≤ x.lo ∧ x.lo ≤ 2147483647) := ⟨i32_wf (by omega) (by omega), by omega, by omega⟩
    have HIL : Az (4 * i + 4 < maxLen) := ⟨by have := HF.out.len; unfold maxLen; omega⟩
    have HX := Az.mk hx
    obtain ⟨ad, hAd, A', c', hrec, hto⟩ := HT.out i x hx
    subst hAd
    obtain ⟨g0, g1, g2, g3, g4, g5, g6, g7⟩ := hrec.up HB.out
    have hbx := recBox_new wr x A' c'
    have HRB := Az.mk hbx
    have HTO := Az.mk hto
    have HB1 : Az (Up wr (wr.alloc (recO x A' c')).drew) := ⟨up_drew (up_alloc (up_refl _) _)⟩
    obtain ⟨f0, f1, f2, f3, f4⟩ := formsO_cells (up_block HB1.out HBX.out.2)
    obtain ⟨k0, k1, k2, k3, k4, k5, k6, k7⟩ := hbx
    obtain ⟨ie, ze, hie, hze, hsi, hby, hzc⟩ := i32_info
    have HS0 : Az (w.heap.size + 1 ≤ wr.heap.size) := ⟨by have := HGF.out; have := (Array.getElem?_eq_some_iff.1 HBX.out.2).1; omega⟩
    clear hxx hrec hto hx hi hlo
    have HBXD : Az ((wr.alloc (recO x A' c')).drew.heap[gf]? = some (formsO bo bf bl bc bs)) := ⟨up_block HB1.out HBX.out.2⟩
    have HRTD : Az ((wr.alloc (recO x A' c')).drew.heap[w.heap.size]? = some formsO0) := ⟨up_block HB1.out HBX.out.1⟩
    have HRBD : Az (RecBox (wr.alloc (recO x A' c')).drew wr.heap.size x A' c') := ⟨HRB.out⟩
    by_cases hk13 : x.kind = 13
    ·have e13 : (x.kind == 13) = true := beq_iff_eq.mpr hk13
     have e7 : (x.kind == 7) = false := bqf (by omega)
     have hlist := HR.out.fits
     unfold fitsB at hlist
     rw [if_neg (by omega), if_neg (by omega), if_neg (by omega), if_neg (by omega), if_neg (by omega), if_neg (by omega), if_neg (by omega), if_neg (by omega), if_neg (by omega), if_pos hk13] at hlist
     simp only [listB, Bool.and_eq_true, decide_eq_true_eq] at hlist
     have hpos : 0 < x.to.length := by omega
     obtain ⟨ad2, hA2, hc2⟩ := HTO.out 0 (.int .i32 (x.to[0])) (by simp [hpos])
     subst hA2
     have HPOS : Az (0 < x.to.length ∧ 0 + x.to.length ≤ maxLen ∧ (0 + x.to.length) * 4 ≤ 140737488355328) := ⟨hpos, by unfold maxLen; omega, by omega⟩
     have HNEWS : Az (∀ (j : Nat) (u : Value), (x.to.map (Value.int .i32))[j]? = some u → (wr.alloc (recO x (some ad2) c')).drew.cell? (ad2.add j) = some u) := ⟨fun j u hu => by
      obtain ⟨ad3, e3, hc3⟩ := (HTO.out.up HB.out).up HB1.out j u hu
      cases e3
      exact hc3⟩
     have HK := Az.mk hk13
     clear hc2 hlist hpos hk13
     have hs0 : (wr.alloc (recO x (some ad2) c')).drew.cell? ⟨gf, 2, none⟩ = some (.map (some bl)) ∧ (wr.alloc (recO x (some ad2) c')).drew.cell? ⟨wr.heap.size, 4, none⟩ = some (.slice (some ad2) x.to.length c') := ⟨f2, k4⟩
     go_wp2
     go_region_held3 (fun w' => w'.cell? ⟨gf, 2, none⟩ = some (.map (some bl)) ∧ w'.cell? ⟨wr.heap.size, 4, none⟩ = some (.slice (some ad2) x.to.length c')) (first | exact hs0 | exact hs3 | exact hs4) (first | (refine step_append_lies _ (by rfl) _ _ _ (by rfl) (w.heap.size + 1) 21 ie _ 1 4 Tryz.underlying23 hie hze hsi hby hzc (by omega) nilS 0 [] (by rfl) (World.ownsRow_nil _ _ _ _) ad2 x.to.length c' (x.to.map (Value.int .i32)) (by rfl) (by simp) HNEWS.out (ints_one _ _) HPOS.out.1 HPOS.out.2.1 HPOS.out.2.2 (by have := HS0.out; simp; omega) (wr.heap.size + 1) (by simp) ?_; intro gg cap w3 hown3 hgrow3 hat3 hlt3; have hup3 := up_trans HB1.out (up_nil hgrow3 rfl); have hi3 := row_ints hown3; obtain ⟨w4, hr4, hfp4, hg4⟩ := (HFP.out.up hup3).storeLooks (by have := HIL.out; omega) x.lo HLO.out.1 (some ⟨gg, 0, none⟩) x.to cap hi3 (fun a ha => by cases ha; exact own_lt_some' hown3); have hbk3 := grown_block hgrow3 HBXD.out (fun e => by cases e); have hbk4 := grown_block hg4 hbk3 (by have := HBB.out; have := HFP.out.ne; simp; omega); have hrb3 := grown_rec hgrow3 HRBD.out (fun e => by cases e); have hrb4 := grown_rec hg4 hrb3 (by have := HFP.out.sec.lt; have := HFP.out.ne; simp; omega); have hs3 := And.intro (formsO_cells hbk3).2.2.1 hrb3.2.2.2.2.1; have hs4 := And.intro (formsO_cells hbk4).2.2.1 hrb4.2.2.2.2.1))
     have HB4 : Az (Up w w4) := ⟨(up_trans HB.out hup3).grown hg4 (up_trans HB.out hup3).size (fun k hk => by cases hk; have := HBB.out; have := HFP.out.ne; omega)⟩
     have HRT4 : Az (w4.heap[w.heap.size]? = some formsO0) := ⟨grown_block hg4 (grown_block hgrow3 HRTD.out (fun e => by cases e)) (by have := HBB.out; have := HFP.out.ne; simp; omega)⟩
     have HBK4 := Az.mk hbk4
     have HRB4 := Az.mk hrb4
     have HFP4 := Az.mk hfp4
     clear hs0 hs3 hs4 hr4 hown3 hgrow3 hat3 hlt3 hup3 hi3 hbk3 hrb3 hfp4 hg4 hbk4 hrb4 g0 g1 g2 g3 g4 g5 g6 g7 f0 f1 f2 f3 f4 k0 k1 k2 k3 k4 k5 k6 k7
     obtain ⟨q0, q1, q2, q3, q4, q5, q6, q7⟩ := HRB4.out
     go_wp2
     go_roundg k
     case measure => have := HI.out; omega
     case rel => exact ⟨i + 1, rfl, ⟨by have := HI.out; omega⟩, HB4, ⟨HRT4.out, HBK4.out⟩, ⟨formsP_looks HF.out HX.out HK.out HFP4.out⟩⟩
    by_cases hk8 : x.kind = 8
    ·have e13 : (x.kind == 13) = false := bqf hk13
     have e8 : (x.kind == 8) = true := beq_iff_eq.mpr hk8
     have e7 : (x.kind == 7) = false := bqf (by omega)
     have hlist := HR.out.fits
     unfold fitsB at hlist
     rw [if_neg (by omega), if_neg (by omega), if_neg (by omega), if_neg (by omega), if_neg (by omega), if_pos hk8] at hlist
     simp only [listB, Bool.and_eq_true, decide_eq_true_eq] at hlist
     have hpos : 0 < x.to.length := by omega
     obtain ⟨ad2, hA2, hc2⟩ := HTO.out 0 (.int .i32 (x.to[0])) (by simp [hpos])
     subst hA2
     have HPOS : Az (0 < x.to.length ∧ 0 + x.to.length ≤ maxLen ∧ (0 + x.to.length) * 4 ≤ 140737488355328) := ⟨hpos, by unfold maxLen; omega, by omega⟩
     have HNEWS : Az (∀ (j : Nat) (u : Value), (x.to.map (Value.int .i32))[j]? = some u → (wr.alloc (recO x (some ad2) c')).drew.cell? (ad2.add j) = some u) := ⟨fun j u hu => by
      obtain ⟨ad3, e3, hc3⟩ := (HTO.out.up HB.out).up HB1.out j u hu
      cases e3
      exact hc3⟩
     have HK := Az.mk hk8
     clear hc2 hlist hpos hk8 hk13
     have hs0 : (wr.alloc (recO x (some ad2) c')).drew.cell? ⟨gf, 0, none⟩ = some (.map (some bo)) ∧ (wr.alloc (recO x (some ad2) c')).drew.cell? ⟨wr.heap.size, 4, none⟩ = some (.slice (some ad2) x.to.length c') := ⟨f0, k4⟩
     go_wp2
     go_region_held3 (fun w' => w'.cell? ⟨gf, 0, none⟩ = some (.map (some bo)) ∧ w'.cell? ⟨wr.heap.size, 4, none⟩ = some (.slice (some ad2) x.to.length c')) (first | exact hs0 | exact hs3 | exact hs4) (first | (refine step_append_lies _ (by rfl) _ _ _ (by rfl) (w.heap.size + 1) 21 ie _ 1 4 Tryz.underlying23 hie hze hsi hby hzc (by omega) nilS 0 [] (by rfl) (World.ownsRow_nil _ _ _ _) ad2 x.to.length c' (x.to.map (Value.int .i32)) (by rfl) (by simp) HNEWS.out (ints_one _ _) HPOS.out.1 HPOS.out.2.1 HPOS.out.2.2 (by have := HS0.out; simp; omega) (wr.heap.size + 1) (by simp) ?_; intro gg cap w3 hown3 hgrow3 hat3 hlt3; have hup3 := up_trans HB1.out (up_nil hgrow3 rfl); have hi3 := row_ints hown3; obtain ⟨w4, hr4, hfp4, hg4⟩ := (HFP.out.up hup3).storeOpen (by have := HIL.out; omega) x.lo HLO.out.1 (some ⟨gg, 0, none⟩) x.to cap hi3 (fun a ha => by cases ha; exact own_lt_some' hown3); have hbk3 := grown_block hgrow3 HBXD.out (fun e => by cases e); have hbk4 := grown_block hg4 hbk3 (by have := HBB.out; have := HFP.out.ne; simp; omega); have hrb3 := grown_rec hgrow3 HRBD.out (fun e => by cases e); have hrb4 := grown_rec hg4 hrb3 (by have := HFP.out.sec.lt; have := HFP.out.ne; simp; omega); have hs3 := And.intro (formsO_cells hbk3).1 hrb3.2.2.2.2.1; have hs4 := And.intro (formsO_cells hbk4).1 hrb4.2.2.2.2.1))
     have HB4 : Az (Up w w4) := ⟨(up_trans HB.out hup3).grown hg4 (up_trans HB.out hup3).size (fun k hk => by cases hk; have := HBB.out; have := HFP.out.ne; omega)⟩
     have HRT4 : Az (w4.heap[w.heap.size]? = some formsO0) := ⟨grown_block hg4 (grown_block hgrow3 HRTD.out (fun e => by cases e)) (by have := HBB.out; have := HFP.out.ne; simp; omega)⟩
     have HBK4 := Az.mk hbk4
     have HRB4 := Az.mk hrb4
     have HFP4 := Az.mk hfp4
     clear hs0 hs3 hs4 hr4 hown3 hgrow3 hat3 hlt3 hup3 hi3 hbk3 hrb3 hfp4 hg4 hbk4 hrb4 g0 g1 g2 g3 g4 g5 g6 g7 f0 f1 f2 f3 f4 k0 k1 k2 k3 k4 k5 k6 k7
     have HFL : Az (fullF T x.lo = .ok (fullL T x.lo)) := ⟨by
      obtain ⟨l, hl⟩ := HF.out.full_ok HX.out (by rw [HK.out]; rfl)
      unfold fullL
      rw [hl]⟩
     have HB4D : Az (Up w w4.drew) := ⟨up_drew HB4.out⟩
     have hs4 : w4.drew.cell? ⟨gf, 1, none⟩ = some (.map (some bf)) := (formsO_cells HBK4.out).2.1
     go_wp2
     go_region_held3 (fun w' => w'.cell? ⟨gf, 1, none⟩ = some (.map (some bf))) (first | exact hs4 | exact hs5 | exact hs6) (first | (go_at_call 161; (refine (full_ok _ c T x.lo (fullL T x.lo) _ (HT.out.up HB4D.out) HF.out HLO.out.2.1 HLO.out.2.2 HFL.out).mono ?_); rintro e w5 ⟨A5, c5, rfl, hi5, ha5, hup5⟩; have hup45 := up_trans (up_drew (up_refl w4)) hup5; obtain ⟨w6, hr6, hfp6, hg6⟩ := (HFP4.out.up hup45).storeFull (by have := HIL.out; omega) x.lo HLO.out.1 A5 (fullL T x.lo) c5 hi5 (fun a ha => Nat.le_trans (by have h1 := HGF.out; have h2 := (Array.getElem?_eq_some_iff.1 HBK4.out).1; show w.heap.size + 1 ≤ w4.heap.size; omega) (ha5 a ha)); have hbk5 := up_block hup45 HBK4.out; have hbk6 := grown_block hg6 hbk5 (by have := HBB.out; have := HFP.out.ne; simp; omega); have hrb5 := HRB4.out.keep hup45; have hrb6 := grown_rec hg6 hrb5 (by have := HFP.out.sec.lt; have := HFP.out.ne; simp; omega); have hs5 := (formsO_cells hbk5).2.1; have hs6 := (formsO_cells hbk6).2.1))
     have HB6 : Az (Up w w6) := ⟨(up_trans HB4.out hup45).grown hg6 (up_trans HB4.out hup45).size (fun k hk => by cases hk; have := HBB.out; have := HFP.out.ne; omega)⟩
     have HRT6 : Az (w6.heap[w.heap.size]? = some formsO0) := ⟨grown_block hg6 (up_block hup45 HRT4.out) (by have := HBB.out; have := HFP.out.ne; simp; omega)⟩
     have HBK6 := Az.mk hbk6
     have HRB6 := Az.mk hrb6
     have HFP6 := Az.mk hfp6
     clear hs4 hs5 hs6 hr6 hi5 ha5 hup5 hup45 hfp6 hg6 hbk5 hbk6 hrb5 hrb6
     obtain ⟨q0, q1, q2, q3, q4, q5, q6, q7⟩ := HRB6.out
     go_wp2
     go_roundg k
     case measure => have := HI.out; omega
     case rel => exact ⟨i + 1, rfl, ⟨by have := HI.out; omega⟩, HB6, ⟨HRT6.out, HBK6.out⟩, ⟨formsP_opens HF.out HX.out HK.out HFP6.out⟩⟩
    by_cases hk7 : x.kind = 7
    ·have e13 : (x.kind == 13) = false := bqf hk13
     have e8 : (x.kind == 8) = false := bqf hk8
     have e7 : (x.kind == 7) = true := beq_iff_eq.mpr hk7
     obtain ⟨a, b, hab, va, vb, hlh, hvl⟩ := HR.out.decomp hk7
     have hlen : x.to.length = 2 := by rw [hab]; rfl
     have hpos : 0 < x.to.length := by omega
     obtain ⟨ad2, hA2, hc2⟩ := HTO.out 0 (.int .i32 (x.to[0])) (by simp [hpos])
     subst hA2
     have HPOS : Az (0 < x.to.length ∧ 0 + x.to.length ≤ maxLen ∧ (0 + x.to.length) * 4 ≤ 140737488355328) := ⟨hpos, by unfold maxLen; omega, by omega⟩
     have HNEWS : Az (∀ (j : Nat) (u : Value), (x.to.map (Value.int .i32))[j]? = some u → (wr.alloc (recO x (some ad2) c')).drew.cell? (ad2.add j) = some u) := ⟨fun j u hu => by
      obtain ⟨ad3, e3, hc3⟩ := (HTO.out.up HB.out).up HB1.out j u hu
      cases e3
      exact hc3⟩
     have HK := Az.mk hk7
     have hp := (validB_iff _).1 va
     have hq := (validB_iff _).1 vb
     have HAB := Az.mk hab
     have HLEN := Az.mk hlen
     have HWF : Az ((Lit.int .i32 a).wf = true ∧ (Lit.int .i32 b).wf = true) := ⟨i32_wf (by omega) (by omega), i32_wf (by omega) (by omega)⟩
     have HCA : Az (w.cell? ad2 = some (.int .i32 a) ∧ w.cell? ⟨ad2.block, ad2.off + 1, none⟩ = some (.int .i32 b)) := ⟨by
      obtain ⟨ad3, e3, hc3⟩ := HTO.out 0 (.int .i32 a) (by rw [hab]; rfl)
      obtain ⟨ad4, e4, hc4⟩ := HTO.out 1 (.int .i32 b) (by rw [hab]; rfl)
      cases e3
      cases e4
      exact ⟨hc3, hc4⟩⟩
     clear hc2 hpos hk7 hk8 hk13 hab va vb hlh hvl hp hq hlen
     have hs0 : (wr.alloc (recO x (some ad2) c')).drew.cell? ⟨gf, 0, none⟩ = some (.map (some bo)) ∧ (wr.alloc (recO x (some ad2) c')).drew.cell? ⟨wr.heap.size, 4, none⟩ = some (.slice (some ad2) x.to.length c') := ⟨f0, k4⟩
     go_wp2
     go_region_held3 (fun w' => w'.cell? ⟨gf, 0, none⟩ = some (.map (some bo)) ∧ w'.cell? ⟨wr.heap.size, 4, none⟩ = some (.slice (some ad2) x.to.length c')) (first | exact hs0 | exact hs3 | exact hs4) (first | (refine step_append_lies _ (by rfl) _ _ _ (by rfl) (w.heap.size + 1) 21 ie _ 1 4 Tryz.underlying23 hie hze hsi hby hzc (by omega) nilS 0 [] (by rfl) (World.ownsRow_nil _ _ _ _) ad2 x.to.length c' (x.to.map (Value.int .i32)) (by rfl) (by simp) HNEWS.out (ints_one _ _) HPOS.out.1 HPOS.out.2.1 HPOS.out.2.2 (by have := HS0.out; simp; omega) (wr.heap.size + 1) (by simp) ?_; intro gg cap w3 hown3 hgrow3 hat3 hlt3; have hup3 := up_trans HB1.out (up_nil hgrow3 rfl); have hi3 := row_ints hown3; obtain ⟨w4, hr4, hfp4, hg4⟩ := (HFP.out.up hup3).storeOpen (by have := HIL.out; omega) x.lo HLO.out.1 (some ⟨gg, 0, none⟩) x.to cap hi3 (fun a ha => by cases ha; exact own_lt_some' hown3); have hbk3 := grown_block hgrow3 HBXD.out (fun e => by cases e); have hbk4 := grown_block hg4 hbk3 (by have := HBB.out; have := HFP.out.ne; simp; omega); have hrb3 := grown_rec hgrow3 HRBD.out (fun e => by cases e); have hrb4 := grown_rec hg4 hrb3 (by have := HFP.out.sec.lt; have := HFP.out.ne; simp; omega); have hs3 := And.intro (formsO_cells hbk3).1 hrb3.2.2.2.2.1; have hs4 := And.intro (formsO_cells hbk4).1 hrb4.2.2.2.2.1))
     have HB4 : Az (Up w w4) := ⟨(up_trans HB.out hup3).grown hg4 (up_trans HB.out hup3).size (fun k hk => by cases hk; have := HBB.out; have := HFP.out.ne; omega)⟩
     have HRT4 : Az (w4.heap[w.heap.size]? = some formsO0) := ⟨grown_block hg4 (grown_block hgrow3 HRTD.out (fun e => by cases e)) (by have := HBB.out; have := HFP.out.ne; simp; omega)⟩
     have HBK4 := Az.mk hbk4
     have HRB4 := Az.mk hrb4
     have HFP4 := Az.mk hfp4
     clear hs0 hs3 hs4 hr4 hown3 hgrow3 hat3 hlt3 hup3 hi3 hbk3 hrb3 hfp4 hg4 hbk4 hrb4 g0 g1 g2 g3 g4 g5 g6 g7 f0 f1 f2 f3 f4 k0 k1 k2 k3 k4 k5 k6 k7
     have HFL : Az (fullF T x.lo = .ok (fullL T x.lo)) := ⟨by
      obtain ⟨l, hl⟩ := HF.out.full_ok HX.out (by rw [HK.out]; rfl)
      unfold fullL
      rw [hl]⟩
     have HB4D : Az (Up w w4.drew) := ⟨up_drew HB4.out⟩
     have hs4 : w4.drew.cell? ⟨gf, 1, none⟩ = some (.map (some bf)) := (formsO_cells HBK4.out).2.1
     go_wp2
     go_region_held3 (fun w' => w'.cell? ⟨gf, 1, none⟩ = some (.map (some bf))) (first | exact hs4 | exact hs5 | exact hs6) (first | (go_at_call 161; (refine (full_ok _ c T x.lo (fullL T x.lo) _ (HT.out.up HB4D.out) HF.out HLO.out.2.1 HLO.out.2.2 HFL.out).mono ?_); rintro e w5 ⟨A5, c5, rfl, hi5, ha5, hup5⟩; have hup45 := up_trans (up_drew (up_refl w4)) hup5; obtain ⟨w6, hr6, hfp6, hg6⟩ := (HFP4.out.up hup45).storeFull (by have := HIL.out; omega) x.lo HLO.out.1 A5 (fullL T x.lo) c5 hi5 (fun a ha => Nat.le_trans (by have h1 := HGF.out; have h2 := (Array.getElem?_eq_some_iff.1 HBK4.out).1; show w.heap.size + 1 ≤ w4.heap.size; omega) (ha5 a ha)); have hbk5 := up_block hup45 HBK4.out; have hbk6 := grown_block hg6 hbk5 (by have := HBB.out; have := HFP.out.ne; simp; omega); have hrb5 := HRB4.out.keep hup45; have hrb6 := grown_rec hg6 hrb5 (by have := HFP.out.sec.lt; have := HFP.out.ne; simp; omega); have hs5 := (formsO_cells hbk5).2.1; have hs6 := (formsO_cells hbk6).2.1))
     have HB6 : Az (Up w w6) := ⟨(up_trans HB4.out hup45).grown hg6 (up_trans HB4.out hup45).size (fun k hk => by cases hk; have := HBB.out; have := HFP.out.ne; omega)⟩
     have HRT6 : Az (w6.heap[w.heap.size]? = some formsO0) := ⟨grown_block hg6 (up_block hup45 HRT4.out) (by have := HBB.out; have := HFP.out.ne; simp; omega)⟩
     have HBK6 := Az.mk hbk6
     have HRB6 := Az.mk hrb6
     have HFP6 := Az.mk hfp6
     clear hs4 hs5 hs6 hr6 hi5 ha5 hup5 hup45 hfp6 hg6 hbk5 hbk6 hrb5 hrb6
     obtain ⟨q0, q1, q2, q3, q4, q5, q6, q7⟩ := HRB6.out
     rw [HLEN.out] at q4
     obtain ⟨w7, hr7, hfp7, hg7⟩ := (HFP6.out.up (up_drew (up_refl w6))).storeComp (by have := HIL.out; omega) a b HWF.out.1 HWF.out.2 (.int .i32 x.lo)
     have hup7 : Up w w7 := (up_drew HB6.out).grown hg7 (up_drew HB6.out).size (fun k hk => by cases hk; have := HBB.out; have := HFP.out.ne; omega)
     have hbk7 := grown_block hg7 (w := w6.drew) HBK6.out (by have := HBB.out; have := HFP.out.ne; simp; omega)
     have hrb7 := grown_rec hg7 (w := w6.drew) HRB6.out (by have := HFP.out.sec.lt; have := HFP.out.ne; simp; omega)
     have HRT7 : Az (w7.heap[w.heap.size]? = some formsO0) := ⟨grown_block hg7 (w := w6.drew) HRT6.out (by have := HBB.out; have := HFP.out.ne; simp; omega)⟩
     have hs6 : w6.drew.cell? ⟨gf, 3, none⟩ = some (.map (some bc)) ∧ w6.drew.cell? ⟨wr.heap.size, 4, none⟩ = some (.slice (some ad2) 2 c') ∧ w6.drew.cell? ad2 = some (.int .i32 a) ∧ w6.drew.cell? ⟨ad2.block, ad2.off + 1, none⟩ = some (.int .i32 b) := ⟨(formsO_cells HBK6.out).2.2.2.1, q4, up_cell (up_drew HB6.out) HCA.out.1, up_cell (up_drew HB6.out) HCA.out.2⟩
     have hs7 : w7.cell? ⟨gf, 3, none⟩ = some (.map (some bc)) ∧ w7.cell? ⟨wr.heap.size, 4, none⟩ = some (.slice (some ad2) 2 c') ∧ w7.cell? ad2 = some (.int .i32 a) ∧ w7.cell? ⟨ad2.block, ad2.off + 1, none⟩ = some (.int .i32 b) := ⟨(formsO_cells hbk7).2.2.2.1, by have := hrb7.2.2.2.2.1; rwa [HLEN.out] at this, up_cell hup7 HCA.out.1, up_cell hup7 HCA.out.2⟩
     go_wp2
     go_region_held3 (fun w' => w'.cell? ⟨gf, 3, none⟩ = some (.map (some bc)) ∧ w'.cell? ⟨wr.heap.size, 4, none⟩ = some (.slice (some ad2) 2 c') ∧ w'.cell? ad2 = some (.int .i32 a) ∧ w'.cell? ⟨ad2.block, ad2.off + 1, none⟩ = some (.int .i32 b)) (first | exact hs6 | exact hs7) (first | fail)
     have HB7 := Az.mk hup7
     have HBK7 := Az.mk hbk7
     have HRB7 := Az.mk hrb7
     have HFP7 := Az.mk hfp7
     clear hs6 hr7 hfp7 hg7 hup7 hbk7 hrb7 q0 q1 q2 q3 q4 q5 q6 q7
     obtain ⟨w8, hr8, hfp8, hg8⟩ := (HFP7.out.up (up_drew (up_refl w7))).storeSec (by have := HIL.out; omega) b HWF.out.2 (.int .i64 1)
     have hup8 : Up w w8 := (up_drew HB7.out).grown hg8 (up_drew HB7.out).size (fun k hk => by cases hk; have := HBB.out; have := HFP.out.ne; omega)
     have hbk8 := grown_block hg8 (w := w7.drew) HBK7.out (by have := HBB.out; simp; omega)
     have hrb8 := grown_rec hg8 (w := w7.drew) HRB7.out (by have := HFP.out.sec.lt; simp; omega)
     have HRT8 : Az (w8.heap[w.heap.size]? = some formsO0) := ⟨grown_block hg8 (w := w7.drew) HRT7.out (by have := HBB.out; have := HFP.out.ne; simp; omega)⟩
     have hs8 : w7.drew.cell? ⟨gf, 4, none⟩ = some (.map (some bs)) ∧ w7.drew.cell? ⟨wr.heap.size, 4, none⟩ = some (.slice (some ad2) 2 c') ∧ w7.drew.cell? ad2 = some (.int .i32 a) ∧ w7.drew.cell? ⟨ad2.block, ad2.off + 1, none⟩ = some (.int .i32 b) := ⟨(formsO_cells HBK7.out).2.2.2.2, hs7.2.1, hs7.2.2.1, hs7.2.2.2⟩
     have hs9 : w8.cell? ⟨gf, 4, none⟩ = some (.map (some bs)) ∧ w8.cell? ⟨wr.heap.size, 4, none⟩ = some (.slice (some ad2) 2 c') ∧ w8.cell? ad2 = some (.int .i32 a) ∧ w8.cell? ⟨ad2.block, ad2.off + 1, none⟩ = some (.int .i32 b) := ⟨(formsO_cells hbk8).2.2.2.2, by have := hrb8.2.2.2.2.1; rwa [HLEN.out] at this, up_cell hup8 HCA.out.1, up_cell hup8 HCA.out.2⟩
     clear hs7
     go_wp2
     go_region_held3 (fun w' => w'.cell? ⟨gf, 4, none⟩ = some (.map (some bs)) ∧ w'.cell? ⟨wr.heap.size, 4, none⟩ = some (.slice (some ad2) 2 c') ∧ w'.cell? ad2 = some (.int .i32 a) ∧ w'.cell? ⟨ad2.block, ad2.off + 1, none⟩ = some (.int .i32 b)) (first | exact hs8 | exact hs9) (first | fail)
     have HB8 := Az.mk hup8
     have HBK8 := Az.mk hbk8
     have HFP8 := Az.mk hfp8
     clear hs8 hs9 hr8 hfp8 hg8 hup8 hbk8 hrb8
     go_wp2
     go_roundg k
     case measure => have := HI.out; omega
     case rel => exact ⟨i + 1, rfl, ⟨by have := HI.out; omega⟩, HB8, ⟨HRT8.out, HBK8.out⟩, ⟨formsP_decomp HF.out HX.out HK.out HAB.out HFP8.out⟩⟩
    have e13 : (x.kind == 13) = false := bqf hk13
    have e8 : (x.kind == 8) = false := bqf hk8
    have e7 : (x.kind == 7) = false := bqf hk7
    have HNF : Az (fam x.kind ≠ 3 ∧ fam x.kind ≠ 8) := ⟨by
     have h := HR.out.kind
     generalize x.kind = q at *
     rcases fam_cases h.1 h.2 with rfl | rfl | rfl | rfl | rfl | rfl | rfl | rfl | rfl | rfl | rfl | rfl | rfl | rfl | rfl <;> first | omega | exact ⟨by decide, by decide⟩⟩
    clear hk13 hk8 hk7
    go_wp2
    go_roundg k
    case measure => have := HI.out; omega
    case rel => exact ⟨i + 1, rfl, ⟨by have := HI.out; omega⟩, ⟨up_alloc HB.out _⟩, ⟨(up_alloc (up_refl wr) _).block _ (by have := HB.out.size; exact (Array.getElem?_eq_some_iff.1 HBX.out.1).1) |>.trans HBX.out.1, (up_alloc (up_refl wr) _).block _ (Array.getElem?_eq_some_iff.1 HBX.out.2).1 |>.trans HBX.out.2⟩, ⟨formsP_skip (HFP.out.up (up_alloc (up_refl _) _)) HX.out HNF.out.1 HNF.out.2⟩⟩
end Go.Proofs.YtnohcnneflogjaaGreat.M
