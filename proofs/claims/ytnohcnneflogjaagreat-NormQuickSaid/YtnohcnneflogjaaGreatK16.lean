/- Properties, walked. -/
import Derived.Test.YtnohcnneflogjaaGreatK15
set_option maxHeartbeats 16000000
set_option maxRecDepth 100000
set_option linter.unusedVariables false
set_option linter.unusedSimpArgs false
namespace Go.Proofs.YtnohcnneflogjaaGreat.M
open Go.RowKit
theorem mprops_1 {p : Prop} (h : p := by
 clear hbx0 hbx2 hbx3 hbx4 k0 k1 k2 k3 k4 k5 k6 k7
 have hup1 : Up wr (wr.alloc (recO x A' c')).drew := up_drew (up_alloc (up_refl _) _)
 have hsl2 := HC.out.lt hI2
 have hne2 : ∀ q, S' q → (Value.slice Av n cv).ownBlock ≠ some q := fun q hq h => by
  rcases hS2 q hq with h1 | h1
  ·exact HNE.out q h1 h
  ·have h2 := (HOWN.out.lt q h).2
   have h3 := hup1.size
   omega
 have HI3 : Az (I (n + 1) w3 S') := ⟨HC.out.st (M := fun q => (Value.slice Av n cv).ownBlock = some q) (HC.out.st (M := fun _ => False) hI2 (Chg.of_up (up_alloc (up_refl _) _)) (fun _ _ h => h)) (Chg.of_grown hgrow3 (fun q e => e)) (fun q hq h => hne2 q hq h)⟩
 have HNE3 : Az (∀ q, S' q → (Value.slice (some ⟨gg, 0, none⟩) (n + 1) cap).ownBlock ≠ some q) := ⟨fun q hq h => by
  have hg : gg = q := by injection h
  subst hg
  rcases hat3 with h1 | h1
  ·exact hne2 gg hq h1
  ·have := hsl2 gg hq
   omega⟩
 have HS3 : Az (∀ q, S' q → S0 q ∨ w.heap.size ≤ q) := ⟨fun q hq => by
  rcases hS2 q hq with h1 | h1
  ·exact HS.out q h1
  ·have h2 := hup1.size
   have h3 := HCH.out.size
   right
   omega⟩
 have HCH3 : Az (Chg S0 w w3) := ⟨(((HCH.out.trans (Chg.of_up (M := fun _ => False) hup1) (fun _ h => h.elim)).trans hch2 HS.out).trans (Chg.of_up (M := fun _ => False) (up_alloc (up_refl _) _)) (fun _ h => h.elim)).trans (Chg.of_grown (M := fun q => (Value.slice Av n cv).ownBlock = some q) hgrow3 (fun q e => e)) (fun q h => .inr (HOWN.out.lt q h).1)⟩
 have HO3 : Az (w3.ownsRow w.heap.size 175 3 (.slice (some ⟨gg, 0, none⟩) (n + 1) cap) (n + 1) (rngsC (rngsOf f 0 ((T.take (i + 1)).filter (fun x => decide (x.kind = kind)))))) := ⟨by
  rw [HSUC.out, rngsOf_append, rngsC_append, ← HN.out, Nat.zero_add]
  exact hown3⟩
 have HN3 : Az (n + 1 = ((T.take (i + 1)).filter (fun x => decide (x.kind = kind))).length) := ⟨by
  rw [HSUC.out, List.length_append, ← HN.out]
  rfl⟩
 clear hup1 hsl2 hne2 hI2 hch2 hS2 hgrow3 hat3 hlt3 hown3 hown2 hsz2
 go_wp2
 go_roundg k
 case measure => have := HI.out; omega
 case rel => exact ⟨i + 1, n + 1, some ⟨gg, 0, none⟩, cap, S', rfl, rfl, ⟨by have := HI.out; omega⟩, HN3, HO3, HI3, HNE3, HS3, HCH3⟩) : p := h
theorem mprops_2 {p : Prop} (h : p := by
 have hlt : decide ((i : Int) < (T.length : Int)) = false := dFz (by omega)
 have hln : decide (i < T.length) = false := dFz (by omega)
 have hfull : T.take i = T := List.take_of_length_le (by omega)
 have hN := HN.out
 have hown := HOWN.out
 rw [hfull] at hN hown
 have hl2 : (rngsOf f 0 (T.filter (fun x => decide (x.kind = kind)))).length = n := by rw [rngsOf_length, hN]
 have hbound : n ≤ 4096 := by rw [hN]; exact Nat.le_trans (List.length_filter_le _ _) hl
 have HN2 := Az.mk hN
 have HB : Az (Calls Tryz.prog 160 #[.slice Av n cv] wr fun e w' => ∃ b, e = .returned (.pointer (some ⟨b, 0, none⟩)) ∧ TrieFrom wr.heap.size w' b (valR (rngsOf f 0 (T.filter (fun x => decide (x.kind = kind)))) 0) ∧ Chg (fun k => (Value.slice Av n cv).ownBlock = some k) wr w') := ⟨by
  rw [← hl2]
  refine built_calls w.heap.size _ _ wr ?_ HAP.out (by omega)
  rw [hl2]
  exact hown⟩
 clear hi hfull hN hown hl2 hbound
 go_wp2_with (first | (go_at_call 160; (with_reducible refine (HB.out).mono ?_); rintro e w2 ⟨b, rfl, htr, hch⟩))
 go_ret
 refine ⟨b, S, wr.heap.size, rfl, htr, HCH.out.size, ?_, HC.out.lt HIN.out, HS.out, HCH.out.trans hch (fun k hk => .inr (HOWN.out.lt k hk).1)⟩
 rw [← HN2.out]
 exact HC.out.st HIN.out hch (fun k hk h => HNE.out k hk h)) : p := h
theorem mprops_3 {p : Prop} (h : p := by
 have HSUC := Az.mk hsucc
 obtain ⟨k0, k1, k2, k3, k4, k5, k6, k7⟩ := hbx
 clear hk hsucc hi
 go_wp2
 go_roundg k
 case measure => have := HI.out; omega
 case rel => exact ⟨i + 1, n, Av, cv, S, rfl, rfl, ⟨by have := HI.out; omega⟩, ⟨by rw [HSUC.out]; exact HN.out⟩, ⟨by rw [HSUC.out]; exact HOWN.out.alloc _⟩, ⟨HC.out.st (M := fun _ => False) HIN.out (Chg.of_up (up_alloc (up_refl _) _)) (fun _ _ h => h)⟩, HNE, HS, ⟨HCH.out.trans (Chg.of_up (M := fun _ => False) (up_alloc (up_refl _) _)) (fun _ h => h.elim)⟩⟩) : p := h
theorem property_val1 (A : Option Addr) (c : Nat) (T : List Rec) (kind : Int) (f : Nat → Int) (lb : Array Value) (I : Nat → World → (Nat → Prop) → Prop) (S0 : Nat → Prop) (w : World) (hT : Table w A T) (hl : T.length ≤ 4096)
 (hC : Clos (T.filter (fun x => decide (x.kind = kind))) f 120 lb I) (hI : I 0 w S0) (hSA : ∀ ad, A = some ad → 0 < T.length → ¬ S0 ad.block) (hAp : Apart (rngsOf f 0 (T.filter (fun x => decide (x.kind = kind))))) :
 Calls Tryz.prog 119 #[.slice A T.length c, .int .i64 kind, .func (.func 120) #[] lb] w fun e w' => ∃ b S H, e = .returned (.pointer (some ⟨b, 0, none⟩)) ∧ TrieFrom H w' b (valR (rngsOf f 0 (T.filter (fun x => decide (x.kind = kind)))) 0) ∧ w.heap.size ≤ H ∧ I (T.filter (fun x => decide (x.kind = kind))).length w' S ∧ (∀ k, S k → k < H) ∧ (∀ k, S k → S0 k ∨ w.heap.size ≤ k) ∧ Chg S0 w w' := by
 have hu96 := Tryz.underlying113
 have HT := Az.mk hT
 have HC := Az.mk hC
 have HI0 := Az.mk hI
 have HAP := Az.mk hAp
 have HSA := Az.mk hSA
 clear hT hC hI hAp hSA
 go_enter Tryz.func119, Tryz.ntmps119
 go_wp2
 go_loopg [7, 12] T.length (fun k v7 v12 w' => ∃ (i : Nat) (n : Nat) (Av : Option Addr) (cv : Nat) (S : Nat → Prop), v12 = .int .i64 i ∧ v7 = .slice Av n cv ∧ Az (i + k = T.length) ∧ Az (n = ((T.take i).filter (fun x => decide (x.kind = kind))).length) ∧
  Az (w'.ownsRow w.heap.size 175 3 (.slice Av n cv) n (rngsC (rngsOf f 0 ((T.take i).filter (fun x => decide (x.kind = kind)))))) ∧ Az (I n w' S) ∧ Az (∀ k, S k → (Value.slice Av n cv).ownBlock ≠ some k) ∧ Az (∀ k, S k → S0 k ∨ w.heap.size ≤ k) ∧ Az (Chg S0 w w'))
 case atStart => exact ⟨0, 0, none, 0, S0, rfl, rfl, ⟨Nat.zero_add _⟩, ⟨rfl⟩, ⟨World.ownsRow_nil _ _ _ _⟩, HI0, ⟨fun k _ h => by cases h⟩, ⟨fun k h => .inl h⟩, ⟨Chg.refl _ _⟩⟩
 case round =>
  obtain ⟨i, n, Av, cv, S, rfl, rfl, HI, HN, HOWN, HIN, HNE, HS, HCH⟩ := hrel
  have hi := HI.out
  cases gk with
  | zero =>
    exact mprops_2
  | succ k =>
    have hlt : decide ((i : Int) < (T.length : Int)) = true := dTz (by omega)
    have hln : decide (i < T.length) = true := dTz (by omega)
    have p1 : 0 ≤ (i : Int) := by omega
    have p2 : (i : Int) < (T.length : Int) := by omega
    have hx : T[i]? = some T[i] := List.getElem?_eq_getElem (by omega)
    obtain ⟨x, hxx⟩ : ∃ x, T[i]'(by omega) = x := ⟨_, rfl⟩
    rw [hxx] at hx
    obtain ⟨ad, hAd, A', c', hrec, hto⟩ := HT.out i x hx
    subst hAd
    obtain ⟨g0, g1, g2, g3, g4, g5, g6, g7⟩ := recAt_chg hrec HCH.out (by rw [add_block]; exact HSA.out ad rfl (by omega))
    have hbx := recBox_new wr x A' c'
    have HBX := Az.mk hbx
    have HX := Az.mk hx
    have hsucc := take_filter_succ hx (fun x => decide (x.kind = kind))
    clear hxx hrec hto hx
    by_cases hk : x.kind = kind
    ·have e1 : (x.kind == kind) = true := beq_iff_eq.mpr hk
     rw [if_pos (by simpa using hk)] at hsucc
     have HSUC := Az.mk hsucc
     have HP : Az ((T.filter (fun x => decide (x.kind = kind)))[n]? = some x) := ⟨by rw [HN.out]; exact filter_at HX.out _ (by simpa using hk)⟩
     have HI1 : Az (I n (wr.alloc (recO x A' c')).drew S) := ⟨HC.out.st (M := fun _ => False) HIN.out (Chg.of_up (up_drew (up_alloc (up_refl _) _))) (fun _ _ h => h)⟩
     have HO1 : Az ((wr.alloc (recO x A' c')).drew.ownsRow w.heap.size 175 3 (.slice Av n cv) n (rngsC (rngsOf f 0 ((T.take i).filter (fun x => decide (x.kind = kind)))))) := ⟨(HOWN.out.alloc _).drew⟩
     have HSL : Az (∀ q, S q → q < wr.heap.size) := ⟨HC.out.lt HIN.out⟩
     have hbound : n ≤ 4096 := by rw [HN.out]; exact Nat.le_trans (List.length_filter_le _ _) (Nat.le_trans (by rw [List.length_take]; omega) hl)
     have HBD := Az.mk hbound
     obtain ⟨ie, ze, hie, hze, hsi, hby, hzc⟩ := rng_info
     obtain ⟨k0, k1, k2, k3, k4, k5, k6, k7⟩ := hbx
     clear hk hsucc hi hbound
     go_wp2
     have hbx0 : RecBox (wr.alloc (recO x A' c')).drew wr.heap.size x A' c' := HBX.out
     have HNM : Az (n + 1 ≤ maxLen ∧ (n + 1) * 24 ≤ 140737488355328) := ⟨by have := HBD.out; unfold maxLen; omega⟩
     go_region_held3 (fun w' => w'.cell? ⟨wr.heap.size, 0, none⟩ = some (.int .i64 x.kind) ∧ w'.cell? ⟨wr.heap.size, 1, none⟩ = some (.int .i64 x.lo) ∧ w'.cell? ⟨wr.heap.size, 2, none⟩ = some (.int .i64 x.hi) ∧ w'.cell? ⟨wr.heap.size, 3, none⟩ = some (.int .i64 x.n) ∧ w'.cell? ⟨wr.heap.size, 4, none⟩ = some (.slice A' x.to.length c') ∧ w'.cell? ⟨wr.heap.size, 5, none⟩ = some (.string x.name) ∧ w'.cell? ⟨wr.heap.size, 6, none⟩ = some (.string x.other) ∧ w'.cell? ⟨wr.heap.size, 7, none⟩ = some (.float .f64 x.weight)) (first | exact hbx0 | exact hbx2 | exact hbx3 | exact hbx4 | go_keep) (first | (go_at_call 120; (refine (HC.out.call A' c' HI1.out HP.out).mono ?_); rintro e w2 ⟨rfl, S', hI2, hch2, hS2⟩; have hsz2 : wr.heap.size < w2.heap.size := Nat.lt_of_lt_of_le (by simp) hch2.size; have hbx2 := recBox_chg hbx0 hch2 (fun h => by have := HSL.out _ h; omega); have hbx3 := hbx2.keep (up_alloc (up_refl _) (.cells #[.int .i64 x.lo, .int .i64 x.hi, .int .i64 (f n)] 175)); have hown2 := own_chg HO1.out hch2 (fun q hq h => HNE.out q h hq)) | (refine step_append_lies _ (by rfl) _ _ _ (by rfl) w.heap.size 175 ie _ 3 24 Tryz.underlying173 hie hze hsi hby hzc (by omega) (.slice Av n cv) n (rngsC (rngsOf f 0 ((T.take i).filter (fun x => decide (x.kind = kind))))) (by rfl) (hown2.alloc _) ⟨w2.heap.size, 0, none⟩ 1 1 [.int .i64 x.lo, .int .i64 x.hi, .int .i64 (f n)] (by rfl) (by rfl) (World.news_of_block (cs := #[.int .i64 x.lo, .int .i64 x.hi, .int .i64 (f n)]) (t := 175) (fr := (0, 0)) (heap_alloc_new w2 _)) (by simp [Value.oneCell']) (by omega) HNM.out.1 HNM.out.2 (by have := HCH.out.size; simp; omega) (w2.heap.size + 1) (by simp) ?_; intro gg cap w3 hown3 hgrow3 hat3 hlt3; have hbx4 := recBox_chg hbx3 (Chg.of_grown (M := fun q => (Value.slice Av n cv).ownBlock = some q) hgrow3 (fun q e => e)) (fun h => by have := (HOWN.out.lt _ h).2; omega)))
     exact mprops_1
    ·have e1 : (x.kind == kind) = false := bqf hk
     rw [if_neg (by simpa using hk)] at hsucc
     exact mprops_3
theorem property_val2 (A : Option Addr) (c : Nat) (T : List Rec) (kind : Int) (f : Nat → Int) (lb : Array Value) (I : Nat → World → (Nat → Prop) → Prop) (S0 : Nat → Prop) (w : World) (hT : Table w A T) (hl : T.length ≤ 4096)
 (hC : Clos (T.filter (fun x => decide (x.kind = kind))) f 121 lb I) (hI : I 0 w S0) (hSA : ∀ ad, A = some ad → 0 < T.length → ¬ S0 ad.block) (hAp : Apart (rngsOf f 0 (T.filter (fun x => decide (x.kind = kind))))) :
 Calls Tryz.prog 119 #[.slice A T.length c, .int .i64 kind, .func (.func 121) #[] lb] w fun e w' => ∃ b S H, e = .returned (.pointer (some ⟨b, 0, none⟩)) ∧ TrieFrom H w' b (valR (rngsOf f 0 (T.filter (fun x => decide (x.kind = kind)))) 0) ∧ w.heap.size ≤ H ∧ I (T.filter (fun x => decide (x.kind = kind))).length w' S ∧ (∀ k, S k → k < H) ∧ (∀ k, S k → S0 k ∨ w.heap.size ≤ k) ∧ Chg S0 w w' := by
 have hu96 := Tryz.underlying113
 have HT := Az.mk hT
 have HC := Az.mk hC
 have HI0 := Az.mk hI
 have HAP := Az.mk hAp
 have HSA := Az.mk hSA
 clear hT hC hI hAp hSA
 go_enter Tryz.func119, Tryz.ntmps119
 go_wp2
 go_loopg [7, 12] T.length (fun k v7 v12 w' => ∃ (i : Nat) (n : Nat) (Av : Option Addr) (cv : Nat) (S : Nat → Prop), v12 = .int .i64 i ∧ v7 = .slice Av n cv ∧ Az (i + k = T.length) ∧ Az (n = ((T.take i).filter (fun x => decide (x.kind = kind))).length) ∧
  Az (w'.ownsRow w.heap.size 175 3 (.slice Av n cv) n (rngsC (rngsOf f 0 ((T.take i).filter (fun x => decide (x.kind = kind)))))) ∧ Az (I n w' S) ∧ Az (∀ k, S k → (Value.slice Av n cv).ownBlock ≠ some k) ∧ Az (∀ k, S k → S0 k ∨ w.heap.size ≤ k) ∧ Az (Chg S0 w w'))
 case atStart => exact ⟨0, 0, none, 0, S0, rfl, rfl, ⟨Nat.zero_add _⟩, ⟨rfl⟩, ⟨World.ownsRow_nil _ _ _ _⟩, HI0, ⟨fun k _ h => by cases h⟩, ⟨fun k h => .inl h⟩, ⟨Chg.refl _ _⟩⟩
 case round =>
  obtain ⟨i, n, Av, cv, S, rfl, rfl, HI, HN, HOWN, HIN, HNE, HS, HCH⟩ := hrel
  have hi := HI.out
  cases gk with
  | zero =>
    exact mprops_2
  | succ k =>
    have hlt : decide ((i : Int) < (T.length : Int)) = true := dTz (by omega)
    have hln : decide (i < T.length) = true := dTz (by omega)
    have p1 : 0 ≤ (i : Int) := by omega
    have p2 : (i : Int) < (T.length : Int) := by omega
    have hx : T[i]? = some T[i] := List.getElem?_eq_getElem (by omega)
    obtain ⟨x, hxx⟩ : ∃ x, T[i]'(by omega) = x := ⟨_, rfl⟩
    rw [hxx] at hx
    obtain ⟨ad, hAd, A', c', hrec, hto⟩ := HT.out i x hx
    subst hAd
    obtain ⟨g0, g1, g2, g3, g4, g5, g6, g7⟩ := recAt_chg hrec HCH.out (by rw [add_block]; exact HSA.out ad rfl (by omega))
    have hbx := recBox_new wr x A' c'
    have HBX := Az.mk hbx
    have HX := Az.mk hx
    have hsucc := take_filter_succ hx (fun x => decide (x.kind = kind))
    clear hxx hrec hto hx
    by_cases hk : x.kind = kind
    ·have e1 : (x.kind == kind) = true := beq_iff_eq.mpr hk
     rw [if_pos (by simpa using hk)] at hsucc
     have HSUC := Az.mk hsucc
     have HP : Az ((T.filter (fun x => decide (x.kind = kind)))[n]? = some x) := ⟨by rw [HN.out]; exact filter_at HX.out _ (by simpa using hk)⟩
     have HI1 : Az (I n (wr.alloc (recO x A' c')).drew S) := ⟨HC.out.st (M := fun _ => False) HIN.out (Chg.of_up (up_drew (up_alloc (up_refl _) _))) (fun _ _ h => h)⟩
     have HO1 : Az ((wr.alloc (recO x A' c')).drew.ownsRow w.heap.size 175 3 (.slice Av n cv) n (rngsC (rngsOf f 0 ((T.take i).filter (fun x => decide (x.kind = kind)))))) := ⟨(HOWN.out.alloc _).drew⟩
     have HSL : Az (∀ q, S q → q < wr.heap.size) := ⟨HC.out.lt HIN.out⟩
     have hbound : n ≤ 4096 := by rw [HN.out]; exact Nat.le_trans (List.length_filter_le _ _) (Nat.le_trans (by rw [List.length_take]; omega) hl)
     have HBD := Az.mk hbound
     obtain ⟨ie, ze, hie, hze, hsi, hby, hzc⟩ := rng_info
     obtain ⟨k0, k1, k2, k3, k4, k5, k6, k7⟩ := hbx
     clear hk hsucc hi hbound
     go_wp2
     have hbx0 : RecBox (wr.alloc (recO x A' c')).drew wr.heap.size x A' c' := HBX.out
     have HNM : Az (n + 1 ≤ maxLen ∧ (n + 1) * 24 ≤ 140737488355328) := ⟨by have := HBD.out; unfold maxLen; omega⟩
     go_region_held3 (fun w' => w'.cell? ⟨wr.heap.size, 0, none⟩ = some (.int .i64 x.kind) ∧ w'.cell? ⟨wr.heap.size, 1, none⟩ = some (.int .i64 x.lo) ∧ w'.cell? ⟨wr.heap.size, 2, none⟩ = some (.int .i64 x.hi) ∧ w'.cell? ⟨wr.heap.size, 3, none⟩ = some (.int .i64 x.n) ∧ w'.cell? ⟨wr.heap.size, 4, none⟩ = some (.slice A' x.to.length c') ∧ w'.cell? ⟨wr.heap.size, 5, none⟩ = some (.string x.name) ∧ w'.cell? ⟨wr.heap.size, 6, none⟩ = some (.string x.other) ∧ w'.cell? ⟨wr.heap.size, 7, none⟩ = some (.float .f64 x.weight)) (first | exact hbx0 | exact hbx2 | exact hbx3 | exact hbx4 | go_keep) (first | (go_at_call 121; (refine (HC.out.call A' c' HI1.out HP.out).mono ?_); rintro e w2 ⟨rfl, S', hI2, hch2, hS2⟩; have hsz2 : wr.heap.size < w2.heap.size := Nat.lt_of_lt_of_le (by simp) hch2.size; have hbx2 := recBox_chg hbx0 hch2 (fun h => by have := HSL.out _ h; omega); have hbx3 := hbx2.keep (up_alloc (up_refl _) (.cells #[.int .i64 x.lo, .int .i64 x.hi, .int .i64 (f n)] 175)); have hown2 := own_chg HO1.out hch2 (fun q hq h => HNE.out q h hq)) | (refine step_append_lies _ (by rfl) _ _ _ (by rfl) w.heap.size 175 ie _ 3 24 Tryz.underlying173 hie hze hsi hby hzc (by omega) (.slice Av n cv) n (rngsC (rngsOf f 0 ((T.take i).filter (fun x => decide (x.kind = kind))))) (by rfl) (hown2.alloc _) ⟨w2.heap.size, 0, none⟩ 1 1 [.int .i64 x.lo, .int .i64 x.hi, .int .i64 (f n)] (by rfl) (by rfl) (World.news_of_block (cs := #[.int .i64 x.lo, .int .i64 x.hi, .int .i64 (f n)]) (t := 175) (fr := (0, 0)) (heap_alloc_new w2 _)) (by simp [Value.oneCell']) (by omega) HNM.out.1 HNM.out.2 (by have := HCH.out.size; simp; omega) (w2.heap.size + 1) (by simp) ?_; intro gg cap w3 hown3 hgrow3 hat3 hlt3; have hbx4 := recBox_chg hbx3 (Chg.of_grown (M := fun q => (Value.slice Av n cv).ownBlock = some q) hgrow3 (fun q e => e)) (fun h => by have := (HOWN.out.lt _ h).2; omega)))
     exact mprops_1
    ·have e1 : (x.kind == kind) = false := bqf hk
     rw [if_neg (by simpa using hk)] at hsucc
     exact mprops_3
theorem property_val3 (A : Option Addr) (c : Nat) (T : List Rec) (kind : Int) (f : Nat → Int) (lb : Array Value) (I : Nat → World → (Nat → Prop) → Prop) (S0 : Nat → Prop) (w : World) (hT : Table w A T) (hl : T.length ≤ 4096)
 (hC : Clos (T.filter (fun x => decide (x.kind = kind))) f 122 lb I) (hI : I 0 w S0) (hSA : ∀ ad, A = some ad → 0 < T.length → ¬ S0 ad.block) (hAp : Apart (rngsOf f 0 (T.filter (fun x => decide (x.kind = kind))))) :
 Calls Tryz.prog 119 #[.slice A T.length c, .int .i64 kind, .func (.func 122) #[] lb] w fun e w' => ∃ b S H, e = .returned (.pointer (some ⟨b, 0, none⟩)) ∧ TrieFrom H w' b (valR (rngsOf f 0 (T.filter (fun x => decide (x.kind = kind)))) 0) ∧ w.heap.size ≤ H ∧ I (T.filter (fun x => decide (x.kind = kind))).length w' S ∧ (∀ k, S k → k < H) ∧ (∀ k, S k → S0 k ∨ w.heap.size ≤ k) ∧ Chg S0 w w' := by
 have hu96 := Tryz.underlying113
 have HT := Az.mk hT
 have HC := Az.mk hC
 have HI0 := Az.mk hI
 have HAP := Az.mk hAp
 have HSA := Az.mk hSA
 clear hT hC hI hAp hSA
 go_enter Tryz.func119, Tryz.ntmps119
 go_wp2
 go_loopg [7, 12] T.length (fun k v7 v12 w' => ∃ (i : Nat) (n : Nat) (Av : Option Addr) (cv : Nat) (S : Nat → Prop), v12 = .int .i64 i ∧ v7 = .slice Av n cv ∧ Az (i + k = T.length) ∧ Az (n = ((T.take i).filter (fun x => decide (x.kind = kind))).length) ∧
  Az (w'.ownsRow w.heap.size 175 3 (.slice Av n cv) n (rngsC (rngsOf f 0 ((T.take i).filter (fun x => decide (x.kind = kind)))))) ∧ Az (I n w' S) ∧ Az (∀ k, S k → (Value.slice Av n cv).ownBlock ≠ some k) ∧ Az (∀ k, S k → S0 k ∨ w.heap.size ≤ k) ∧ Az (Chg S0 w w'))
 case atStart => exact ⟨0, 0, none, 0, S0, rfl, rfl, ⟨Nat.zero_add _⟩, ⟨rfl⟩, ⟨World.ownsRow_nil _ _ _ _⟩, HI0, ⟨fun k _ h => by cases h⟩, ⟨fun k h => .inl h⟩, ⟨Chg.refl _ _⟩⟩
 case round =>
  obtain ⟨i, n, Av, cv, S, rfl, rfl, HI, HN, HOWN, HIN, HNE, HS, HCH⟩ := hrel
  have hi := HI.out
  cases gk with
  | zero =>
    exact mprops_2
  | succ k =>
    have hlt : decide ((i : Int) < (T.length : Int)) = true := dTz (by omega)
    have hln : decide (i < T.length) = true := dTz (by omega)
    have p1 : 0 ≤ (i : Int) := by omega
    have p2 : (i : Int) < (T.length : Int) := by omega
    have hx : T[i]? = some T[i] := List.getElem?_eq_getElem (by omega)
    obtain ⟨x, hxx⟩ : ∃ x, T[i]'(by omega) = x := ⟨_, rfl⟩
    rw [hxx] at hx
    obtain ⟨ad, hAd, A', c', hrec, hto⟩ := HT.out i x hx
    subst hAd
    obtain ⟨g0, g1, g2, g3, g4, g5, g6, g7⟩ := recAt_chg hrec HCH.out (by rw [add_block]; exact HSA.out ad rfl (by omega))
    have hbx := recBox_new wr x A' c'
    have HBX := Az.mk hbx
    have HX := Az.mk hx
    have hsucc := take_filter_succ hx (fun x => decide (x.kind = kind))
    clear hxx hrec hto hx
    by_cases hk : x.kind = kind
    ·have e1 : (x.kind == kind) = true := beq_iff_eq.mpr hk
     rw [if_pos (by simpa using hk)] at hsucc
     have HSUC := Az.mk hsucc
     have HP : Az ((T.filter (fun x => decide (x.kind = kind)))[n]? = some x) := ⟨by rw [HN.out]; exact filter_at HX.out _ (by simpa using hk)⟩
     have HI1 : Az (I n (wr.alloc (recO x A' c')).drew S) := ⟨HC.out.st (M := fun _ => False) HIN.out (Chg.of_up (up_drew (up_alloc (up_refl _) _))) (fun _ _ h => h)⟩
     have HO1 : Az ((wr.alloc (recO x A' c')).drew.ownsRow w.heap.size 175 3 (.slice Av n cv) n (rngsC (rngsOf f 0 ((T.take i).filter (fun x => decide (x.kind = kind)))))) := ⟨(HOWN.out.alloc _).drew⟩
     have HSL : Az (∀ q, S q → q < wr.heap.size) := ⟨HC.out.lt HIN.out⟩
     have hbound : n ≤ 4096 := by rw [HN.out]; exact Nat.le_trans (List.length_filter_le _ _) (Nat.le_trans (by rw [List.length_take]; omega) hl)
     have HBD := Az.mk hbound
     obtain ⟨ie, ze, hie, hze, hsi, hby, hzc⟩ := rng_info
     obtain ⟨k0, k1, k2, k3, k4, k5, k6, k7⟩ := hbx
     clear hk hsucc hi hbound
     go_wp2
     have hbx0 : RecBox (wr.alloc (recO x A' c')).drew wr.heap.size x A' c' := HBX.out
     have HNM : Az (n + 1 ≤ maxLen ∧ (n + 1) * 24 ≤ 140737488355328) := ⟨by have := HBD.out; unfold maxLen; omega⟩
     go_region_held3 (fun w' => w'.cell? ⟨wr.heap.size, 0, none⟩ = some (.int .i64 x.kind) ∧ w'.cell? ⟨wr.heap.size, 1, none⟩ = some (.int .i64 x.lo) ∧ w'.cell? ⟨wr.heap.size, 2, none⟩ = some (.int .i64 x.hi) ∧ w'.cell? ⟨wr.heap.size, 3, none⟩ = some (.int .i64 x.n) ∧ w'.cell? ⟨wr.heap.size, 4, none⟩ = some (.slice A' x.to.length c') ∧ w'.cell? ⟨wr.heap.size, 5, none⟩ = some (.string x.name) ∧ w'.cell? ⟨wr.heap.size, 6, none⟩ = some (.string x.other) ∧ w'.cell? ⟨wr.heap.size, 7, none⟩ = some (.float .f64 x.weight)) (first | exact hbx0 | exact hbx2 | exact hbx3 | exact hbx4 | go_keep) (first | (go_at_call 122; (refine (HC.out.call A' c' HI1.out HP.out).mono ?_); rintro e w2 ⟨rfl, S', hI2, hch2, hS2⟩; have hsz2 : wr.heap.size < w2.heap.size := Nat.lt_of_lt_of_le (by simp) hch2.size; have hbx2 := recBox_chg hbx0 hch2 (fun h => by have := HSL.out _ h; omega); have hbx3 := hbx2.keep (up_alloc (up_refl _) (.cells #[.int .i64 x.lo, .int .i64 x.hi, .int .i64 (f n)] 175)); have hown2 := own_chg HO1.out hch2 (fun q hq h => HNE.out q h hq)) | (refine step_append_lies _ (by rfl) _ _ _ (by rfl) w.heap.size 175 ie _ 3 24 Tryz.underlying173 hie hze hsi hby hzc (by omega) (.slice Av n cv) n (rngsC (rngsOf f 0 ((T.take i).filter (fun x => decide (x.kind = kind))))) (by rfl) (hown2.alloc _) ⟨w2.heap.size, 0, none⟩ 1 1 [.int .i64 x.lo, .int .i64 x.hi, .int .i64 (f n)] (by rfl) (by rfl) (World.news_of_block (cs := #[.int .i64 x.lo, .int .i64 x.hi, .int .i64 (f n)]) (t := 175) (fr := (0, 0)) (heap_alloc_new w2 _)) (by simp [Value.oneCell']) (by omega) HNM.out.1 HNM.out.2 (by have := HCH.out.size; simp; omega) (w2.heap.size + 1) (by simp) ?_; intro gg cap w3 hown3 hgrow3 hat3 hlt3; have hbx4 := recBox_chg hbx3 (Chg.of_grown (M := fun q => (Value.slice Av n cv).ownBlock = some q) hgrow3 (fun q e => e)) (fun h => by have := (HOWN.out.lt _ h).2; omega)))
     exact mprops_1
    ·have e1 : (x.kind == kind) = false := bqf hk
     rw [if_neg (by simpa using hk)] at hsucc
     exact mprops_3
theorem property_val4 (A : Option Addr) (c : Nat) (T : List Rec) (kind : Int) (f : Nat → Int) (lb : Array Value) (I : Nat → World → (Nat → Prop) → Prop) (S0 : Nat → Prop) (w : World) (hT : Table w A T) (hl : T.length ≤ 4096)
 (hC : Clos (T.filter (fun x => decide (x.kind = kind))) f 123 lb I) (hI : I 0 w S0) (hSA : ∀ ad, A = some ad → 0 < T.length → ¬ S0 ad.block) (hAp : Apart (rngsOf f 0 (T.filter (fun x => decide (x.kind = kind))))) :
 Calls Tryz.prog 119 #[.slice A T.length c, .int .i64 kind, .func (.func 123) #[] lb] w fun e w' => ∃ b S H, e = .returned (.pointer (some ⟨b, 0, none⟩)) ∧ TrieFrom H w' b (valR (rngsOf f 0 (T.filter (fun x => decide (x.kind = kind)))) 0) ∧ w.heap.size ≤ H ∧ I (T.filter (fun x => decide (x.kind = kind))).length w' S ∧ (∀ k, S k → k < H) ∧ (∀ k, S k → S0 k ∨ w.heap.size ≤ k) ∧ Chg S0 w w' := by
 have hu96 := Tryz.underlying113
 have HT := Az.mk hT
 have HC := Az.mk hC
 have HI0 := Az.mk hI
 have HAP := Az.mk hAp
 have HSA := Az.mk hSA
 clear hT hC hI hAp hSA
 go_enter Tryz.func119, Tryz.ntmps119
 go_wp2
 go_loopg [7, 12] T.length (fun k v7 v12 w' => ∃ (i : Nat) (n : Nat) (Av : Option Addr) (cv : Nat) (S : Nat → Prop), v12 = .int .i64 i ∧ v7 = .slice Av n cv ∧ Az (i + k = T.length) ∧ Az (n = ((T.take i).filter (fun x => decide (x.kind = kind))).length) ∧
  Az (w'.ownsRow w.heap.size 175 3 (.slice Av n cv) n (rngsC (rngsOf f 0 ((T.take i).filter (fun x => decide (x.kind = kind)))))) ∧ Az (I n w' S) ∧ Az (∀ k, S k → (Value.slice Av n cv).ownBlock ≠ some k) ∧ Az (∀ k, S k → S0 k ∨ w.heap.size ≤ k) ∧ Az (Chg S0 w w'))
 case atStart => exact ⟨0, 0, none, 0, S0, rfl, rfl, ⟨Nat.zero_add _⟩, ⟨rfl⟩, ⟨World.ownsRow_nil _ _ _ _⟩, HI0, ⟨fun k _ h => by cases h⟩, ⟨fun k h => .inl h⟩, ⟨Chg.refl _ _⟩⟩
 case round =>
  obtain ⟨i, n, Av, cv, S, rfl, rfl, HI, HN, HOWN, HIN, HNE, HS, HCH⟩ := hrel
  have hi := HI.out
  cases gk with
  | zero =>
    exact mprops_2
  | succ k =>
    have hlt : decide ((i : Int) < (T.length : Int)) = true := dTz (by omega)
    have hln : decide (i < T.length) = true := dTz (by omega)
    have p1 : 0 ≤ (i : Int) := by omega
    have p2 : (i : Int) < (T.length : Int) := by omega
    have hx : T[i]? = some T[i] := List.getElem?_eq_getElem (by omega)
    obtain ⟨x, hxx⟩ : ∃ x, T[i]'(by omega) = x := ⟨_, rfl⟩
    rw [hxx] at hx
    obtain ⟨ad, hAd, A', c', hrec, hto⟩ := HT.out i x hx
    subst hAd
    obtain ⟨g0, g1, g2, g3, g4, g5, g6, g7⟩ := recAt_chg hrec HCH.out (by rw [add_block]; exact HSA.out ad rfl (by omega))
    have hbx := recBox_new wr x A' c'
    have HBX := Az.mk hbx
    have HX := Az.mk hx
    have hsucc := take_filter_succ hx (fun x => decide (x.kind = kind))
    clear hxx hrec hto hx
    by_cases hk : x.kind = kind
    ·have e1 : (x.kind == kind) = true := beq_iff_eq.mpr hk
     rw [if_pos (by simpa using hk)] at hsucc
     have HSUC := Az.mk hsucc
     have HP : Az ((T.filter (fun x => decide (x.kind = kind)))[n]? = some x) := ⟨by rw [HN.out]; exact filter_at HX.out _ (by simpa using hk)⟩
     have HI1 : Az (I n (wr.alloc (recO x A' c')).drew S) := ⟨HC.out.st (M := fun _ => False) HIN.out (Chg.of_up (up_drew (up_alloc (up_refl _) _))) (fun _ _ h => h)⟩
     have HO1 : Az ((wr.alloc (recO x A' c')).drew.ownsRow w.heap.size 175 3 (.slice Av n cv) n (rngsC (rngsOf f 0 ((T.take i).filter (fun x => decide (x.kind = kind)))))) := ⟨(HOWN.out.alloc _).drew⟩
     have HSL : Az (∀ q, S q → q < wr.heap.size) := ⟨HC.out.lt HIN.out⟩
     have hbound : n ≤ 4096 := by rw [HN.out]; exact Nat.le_trans (List.length_filter_le _ _) (Nat.le_trans (by rw [List.length_take]; omega) hl)
     have HBD := Az.mk hbound
     obtain ⟨ie, ze, hie, hze, hsi, hby, hzc⟩ := rng_info
     obtain ⟨k0, k1, k2, k3, k4, k5, k6, k7⟩ := hbx
     clear hk hsucc hi hbound
     go_wp2
     have hbx0 : RecBox (wr.alloc (recO x A' c')).drew wr.heap.size x A' c' := HBX.out
     have HNM : Az (n + 1 ≤ maxLen ∧ (n + 1) * 24 ≤ 140737488355328) := ⟨by have := HBD.out; unfold maxLen; omega⟩
     go_region_held3 (fun w' => w'.cell? ⟨wr.heap.size, 0, none⟩ = some (.int .i64 x.kind) ∧ w'.cell? ⟨wr.heap.size, 1, none⟩ = some (.int .i64 x.lo) ∧ w'.cell? ⟨wr.heap.size, 2, none⟩ = some (.int .i64 x.hi) ∧ w'.cell? ⟨wr.heap.size, 3, none⟩ = some (.int .i64 x.n) ∧ w'.cell? ⟨wr.heap.size, 4, none⟩ = some (.slice A' x.to.length c') ∧ w'.cell? ⟨wr.heap.size, 5, none⟩ = some (.string x.name) ∧ w'.cell? ⟨wr.heap.size, 6, none⟩ = some (.string x.other) ∧ w'.cell? ⟨wr.heap.size, 7, none⟩ = some (.float .f64 x.weight)) (first | exact hbx0 | exact hbx2 | exact hbx3 | exact hbx4 | go_keep) (first | (go_at_call 123; (refine (HC.out.call A' c' HI1.out HP.out).mono ?_); rintro e w2 ⟨rfl, S', hI2, hch2, hS2⟩; have hsz2 : wr.heap.size < w2.heap.size := Nat.lt_of_lt_of_le (by simp) hch2.size; have hbx2 := recBox_chg hbx0 hch2 (fun h => by have := HSL.out _ h; omega); have hbx3 := hbx2.keep (up_alloc (up_refl _) (.cells #[.int .i64 x.lo, .int .i64 x.hi, .int .i64 (f n)] 175)); have hown2 := own_chg HO1.out hch2 (fun q hq h => HNE.out q h hq)) | (refine step_append_lies _ (by rfl) _ _ _ (by rfl) w.heap.size 175 ie _ 3 24 Tryz.underlying173 hie hze hsi hby hzc (by omega) (.slice Av n cv) n (rngsC (rngsOf f 0 ((T.take i).filter (fun x => decide (x.kind = kind))))) (by rfl) (hown2.alloc _) ⟨w2.heap.size, 0, none⟩ 1 1 [.int .i64 x.lo, .int .i64 x.hi, .int .i64 (f n)] (by rfl) (by rfl) (World.news_of_block (cs := #[.int .i64 x.lo, .int .i64 x.hi, .int .i64 (f n)]) (t := 175) (fr := (0, 0)) (heap_alloc_new w2 _)) (by simp [Value.oneCell']) (by omega) HNM.out.1 HNM.out.2 (by have := HCH.out.size; simp; omega) (w2.heap.size + 1) (by simp) ?_; intro gg cap w3 hown3 hgrow3 hat3 hlt3; have hbx4 := recBox_chg hbx3 (Chg.of_grown (M := fun q => (Value.slice Av n cv).ownBlock = some q) hgrow3 (fun q e => e)) (fun h => by have := (HOWN.out.lt _ h).2; omega)))
     exact mprops_1
    ·have e1 : (x.kind == kind) = false := bqf hk
     rw [if_neg (by simpa using hk)] at hsucc
     exact mprops_3
theorem property_scripts (A : Option Addr) (c : Nat) (T : List Rec) (kind : Int) (f : Nat → Int) (lb : Array Value) (I : Nat → World → (Nat → Prop) → Prop) (S0 : Nat → Prop) (w : World) (hT : Table w A T) (hl : T.length ≤ 4096)
 (hC : Clos (T.filter (fun x => decide (x.kind = kind))) f 162 lb I) (hI : I 0 w S0) (hSA : ∀ ad, A = some ad → 0 < T.length → ¬ S0 ad.block) (hAp : Apart (rngsOf f 0 (T.filter (fun x => decide (x.kind = kind))))) :
 Calls Tryz.prog 119 #[.slice A T.length c, .int .i64 kind, .func (.func 162) #[] lb] w fun e w' => ∃ b S H, e = .returned (.pointer (some ⟨b, 0, none⟩)) ∧ TrieFrom H w' b (valR (rngsOf f 0 (T.filter (fun x => decide (x.kind = kind)))) 0) ∧ w.heap.size ≤ H ∧ I (T.filter (fun x => decide (x.kind = kind))).length w' S ∧ (∀ k, S k → k < H) ∧ (∀ k, S k → S0 k ∨ w.heap.size ≤ k) ∧ Chg S0 w w' := by
 have hu96 := Tryz.underlying113
 have HT := Az.mk hT
 have HC := Az.mk hC
 have HI0 := Az.mk hI
 have HAP := Az.mk hAp
 have HSA := Az.mk hSA
 clear hT hC hI hAp hSA
 go_enter Tryz.func119, Tryz.ntmps119
 go_wp2
 go_loopg [7, 12] T.length (fun k v7 v12 w' => ∃ (i : Nat) (n : Nat) (Av : Option Addr) (cv : Nat) (S : Nat → Prop), v12 = .int .i64 i ∧ v7 = .slice Av n cv ∧ Az (i + k = T.length) ∧ Az (n = ((T.take i).filter (fun x => decide (x.kind = kind))).length) ∧
  Az (w'.ownsRow w.heap.size 175 3 (.slice Av n cv) n (rngsC (rngsOf f 0 ((T.take i).filter (fun x => decide (x.kind = kind)))))) ∧ Az (I n w' S) ∧ Az (∀ k, S k → (Value.slice Av n cv).ownBlock ≠ some k) ∧ Az (∀ k, S k → S0 k ∨ w.heap.size ≤ k) ∧ Az (Chg S0 w w'))
 case atStart => exact ⟨0, 0, none, 0, S0, rfl, rfl, ⟨Nat.zero_add _⟩, ⟨rfl⟩, ⟨World.ownsRow_nil _ _ _ _⟩, HI0, ⟨fun k _ h => by cases h⟩, ⟨fun k h => .inl h⟩, ⟨Chg.refl _ _⟩⟩
 case round =>
  obtain ⟨i, n, Av, cv, S, rfl, rfl, HI, HN, HOWN, HIN, HNE, HS, HCH⟩ := hrel
  have hi := HI.out
  cases gk with
  | zero =>
    exact mprops_2
  | succ k =>
    have hlt : decide ((i : Int) < (T.length : Int)) = true := dTz (by omega)
    have hln : decide (i < T.length) = true := dTz (by omega)
    have p1 : 0 ≤ (i : Int) := by omega
    have p2 : (i : Int) < (T.length : Int) := by omega
    have hx : T[i]? = some T[i] := List.getElem?_eq_getElem (by omega)
    obtain ⟨x, hxx⟩ : ∃ x, T[i]'(by omega) = x := ⟨_, rfl⟩
    rw [hxx] at hx
    obtain ⟨ad, hAd, A', c', hrec, hto⟩ := HT.out i x hx
    subst hAd
    obtain ⟨g0, g1, g2, g3, g4, g5, g6, g7⟩ := recAt_chg hrec HCH.out (by rw [add_block]; exact HSA.out ad rfl (by omega))
    have hbx := recBox_new wr x A' c'
    have HBX := Az.mk hbx
    have HX := Az.mk hx
    have hsucc := take_filter_succ hx (fun x => decide (x.kind = kind))
    clear hxx hrec hto hx
    by_cases hk : x.kind = kind
    ·have e1 : (x.kind == kind) = true := beq_iff_eq.mpr hk
     rw [if_pos (by simpa using hk)] at hsucc
     have HSUC := Az.mk hsucc
     have HP : Az ((T.filter (fun x => decide (x.kind = kind)))[n]? = some x) := ⟨by rw [HN.out]; exact filter_at HX.out _ (by simpa using hk)⟩
     have HI1 : Az (I n (wr.alloc (recO x A' c')).drew S) := ⟨HC.out.st (M := fun _ => False) HIN.out (Chg.of_up (up_drew (up_alloc (up_refl _) _))) (fun _ _ h => h)⟩
     have HO1 : Az ((wr.alloc (recO x A' c')).drew.ownsRow w.heap.size 175 3 (.slice Av n cv) n (rngsC (rngsOf f 0 ((T.take i).filter (fun x => decide (x.kind = kind)))))) := ⟨(HOWN.out.alloc _).drew⟩
     have HSL : Az (∀ q, S q → q < wr.heap.size) := ⟨HC.out.lt HIN.out⟩
     have hbound : n ≤ 4096 := by rw [HN.out]; exact Nat.le_trans (List.length_filter_le _ _) (Nat.le_trans (by rw [List.length_take]; omega) hl)
     have HBD := Az.mk hbound
     obtain ⟨ie, ze, hie, hze, hsi, hby, hzc⟩ := rng_info
     obtain ⟨k0, k1, k2, k3, k4, k5, k6, k7⟩ := hbx
     clear hk hsucc hi hbound
     go_wp2
     have hbx0 : RecBox (wr.alloc (recO x A' c')).drew wr.heap.size x A' c' := HBX.out
     have HNM : Az (n + 1 ≤ maxLen ∧ (n + 1) * 24 ≤ 140737488355328) := ⟨by have := HBD.out; unfold maxLen; omega⟩
     go_region_held3 (fun w' => w'.cell? ⟨wr.heap.size, 0, none⟩ = some (.int .i64 x.kind) ∧ w'.cell? ⟨wr.heap.size, 1, none⟩ = some (.int .i64 x.lo) ∧ w'.cell? ⟨wr.heap.size, 2, none⟩ = some (.int .i64 x.hi) ∧ w'.cell? ⟨wr.heap.size, 3, none⟩ = some (.int .i64 x.n) ∧ w'.cell? ⟨wr.heap.size, 4, none⟩ = some (.slice A' x.to.length c') ∧ w'.cell? ⟨wr.heap.size, 5, none⟩ = some (.string x.name) ∧ w'.cell? ⟨wr.heap.size, 6, none⟩ = some (.string x.other) ∧ w'.cell? ⟨wr.heap.size, 7, none⟩ = some (.float .f64 x.weight)) (first | exact hbx0 | exact hbx2 | exact hbx3 | exact hbx4 | go_keep) (first | (go_at_call 162; (refine (HC.out.call A' c' HI1.out HP.out).mono ?_); rintro e w2 ⟨rfl, S', hI2, hch2, hS2⟩; have hsz2 : wr.heap.size < w2.heap.size := Nat.lt_of_lt_of_le (by simp) hch2.size; have hbx2 := recBox_chg hbx0 hch2 (fun h => by have := HSL.out _ h; omega); have hbx3 := hbx2.keep (up_alloc (up_refl _) (.cells #[.int .i64 x.lo, .int .i64 x.hi, .int .i64 (f n)] 175)); have hown2 := own_chg HO1.out hch2 (fun q hq h => HNE.out q h hq)) | (refine step_append_lies _ (by rfl) _ _ _ (by rfl) w.heap.size 175 ie _ 3 24 Tryz.underlying173 hie hze hsi hby hzc (by omega) (.slice Av n cv) n (rngsC (rngsOf f 0 ((T.take i).filter (fun x => decide (x.kind = kind))))) (by rfl) (hown2.alloc _) ⟨w2.heap.size, 0, none⟩ 1 1 [.int .i64 x.lo, .int .i64 x.hi, .int .i64 (f n)] (by rfl) (by rfl) (World.news_of_block (cs := #[.int .i64 x.lo, .int .i64 x.hi, .int .i64 (f n)]) (t := 175) (fr := (0, 0)) (heap_alloc_new w2 _)) (by simp [Value.oneCell']) (by omega) HNM.out.1 HNM.out.2 (by have := HCH.out.size; simp; omega) (w2.heap.size + 1) (by simp) ?_; intro gg cap w3 hown3 hgrow3 hat3 hlt3; have hbx4 := recBox_chg hbx3 (Chg.of_grown (M := fun q => (Value.slice Av n cv).ownBlock = some q) hgrow3 (fun q e => e)) (fun h => by have := (HOWN.out.lt _ h).2; omega)))
     exact mprops_1
    ·have e1 : (x.kind == kind) = false := bqf hk
     rw [if_neg (by simpa using hk)] at hsucc
     exact mprops_3
theorem property_costs (A : Option Addr) (c : Nat) (T : List Rec) (kind : Int) (f : Nat → Int) (lb : Array Value) (I : Nat → World → (Nat → Prop) → Prop) (S0 : Nat → Prop) (w : World) (hT : Table w A T) (hl : T.length ≤ 4096)
 (hC : Clos (T.filter (fun x => decide (x.kind = kind))) f 163 lb I) (hI : I 0 w S0) (hSA : ∀ ad, A = some ad → 0 < T.length → ¬ S0 ad.block) (hAp : Apart (rngsOf f 0 (T.filter (fun x => decide (x.kind = kind))))) :
 Calls Tryz.prog 119 #[.slice A T.length c, .int .i64 kind, .func (.func 163) #[] lb] w fun e w' => ∃ b S H, e = .returned (.pointer (some ⟨b, 0, none⟩)) ∧ TrieFrom H w' b (valR (rngsOf f 0 (T.filter (fun x => decide (x.kind = kind)))) 0) ∧ w.heap.size ≤ H ∧ I (T.filter (fun x => decide (x.kind = kind))).length w' S ∧ (∀ k, S k → k < H) ∧ (∀ k, S k → S0 k ∨ w.heap.size ≤ k) ∧ Chg S0 w w' := by
 have hu96 := Tryz.underlying113
 have HT := Az.mk hT
 have HC := Az.mk hC
 have HI0 := Az.mk hI
 have HAP := Az.mk hAp
 have HSA := Az.mk hSA
 clear hT hC hI hAp hSA
 go_enter Tryz.func119, Tryz.ntmps119
 go_wp2
 go_loopg [7, 12] T.length (fun k v7 v12 w' => ∃ (i : Nat) (n : Nat) (Av : Option Addr) (cv : Nat) (S : Nat → Prop), v12 = .int .i64 i ∧ v7 = .slice Av n cv ∧ Az (i + k = T.length) ∧ Az (n = ((T.take i).filter (fun x => decide (x.kind = kind))).length) ∧
  Az (w'.ownsRow w.heap.size 175 3 (.slice Av n cv) n (rngsC (rngsOf f 0 ((T.take i).filter (fun x => decide (x.kind = kind)))))) ∧ Az (I n w' S) ∧ Az (∀ k, S k → (Value.slice Av n cv).ownBlock ≠ some k) ∧ Az (∀ k, S k → S0 k ∨ w.heap.size ≤ k) ∧ Az (Chg S0 w w'))
 case atStart => exact ⟨0, 0, none, 0, S0, rfl, rfl, ⟨Nat.zero_add _⟩, ⟨rfl⟩, ⟨World.ownsRow_nil _ _ _ _⟩, HI0, ⟨fun k _ h => by cases h⟩, ⟨fun k h => .inl h⟩, ⟨Chg.refl _ _⟩⟩
 case round =>
  obtain ⟨i, n, Av, cv, S, rfl, rfl, HI, HN, HOWN, HIN, HNE, HS, HCH⟩ := hrel
  have hi := HI.out
  cases gk with
  | zero =>
    exact mprops_2
  | succ k =>
    have hlt : decide ((i : Int) < (T.length : Int)) = true := dTz (by omega)
    have hln : decide (i < T.length) = true := dTz (by omega)
    have p1 : 0 ≤ (i : Int) := by omega
    have p2 : (i : Int) < (T.length : Int) := by omega
    have hx : T[i]? = some T[i] := List.getElem?_eq_getElem (by omega)
    obtain ⟨x, hxx⟩ : ∃ x, T[i]'(by omega) = x := ⟨_, rfl⟩
    rw [hxx] at hx
    obtain ⟨ad, hAd, A', c', hrec, hto⟩ := HT.out i x hx
    subst hAd
    obtain ⟨g0, g1, g2, g3, g4, g5, g6, g7⟩ := recAt_chg hrec HCH.out (by rw [add_block]; exact HSA.out ad rfl (by omega))
    have hbx := recBox_new wr x A' c'
    have HBX := Az.mk hbx
    have HX := Az.mk hx
    have hsucc := take_filter_succ hx (fun x => decide (x.kind = kind))
    clear hxx hrec hto hx
    by_cases hk : x.kind = kind
    ·have e1 : (x.kind == kind) = true := beq_iff_eq.mpr hk
     rw [if_pos (by simpa using hk)] at hsucc
     have HSUC := Az.mk hsucc
     have HP : Az ((T.filter (fun x => decide (x.kind = kind)))[n]? = some x) := ⟨by rw [HN.out]; exact filter_at HX.out _ (by simpa using hk)⟩
     have HI1 : Az (I n (wr.alloc (recO x A' c')).drew S) := ⟨HC.out.st (M := fun _ => False) HIN.out (Chg.of_up (up_drew (up_alloc (up_refl _) _))) (fun _ _ h => h)⟩
     have HO1 : Az ((wr.alloc (recO x A' c')).drew.ownsRow w.heap.size 175 3 (.slice Av n cv) n (rngsC (rngsOf f 0 ((T.take i).filter (fun x => decide (x.kind = kind)))))) := ⟨(HOWN.out.alloc _).drew⟩
     have HSL : Az (∀ q, S q → q < wr.heap.size) := ⟨HC.out.lt HIN.out⟩
     have hbound : n ≤ 4096 := by rw [HN.out]; exact Nat.le_trans (List.length_filter_le _ _) (Nat.le_trans (by rw [List.length_take]; omega) hl)
     have HBD := Az.mk hbound
     obtain ⟨ie, ze, hie, hze, hsi, hby, hzc⟩ := rng_info
     obtain ⟨k0, k1, k2, k3, k4, k5, k6, k7⟩ := hbx
     clear hk hsucc hi hbound
     go_wp2
     have hbx0 : RecBox (wr.alloc (recO x A' c')).drew wr.heap.size x A' c' := HBX.out
     have HNM : Az (n + 1 ≤ maxLen ∧ (n + 1) * 24 ≤ 140737488355328) := ⟨by have := HBD.out; unfold maxLen; omega⟩
     go_region_held3 (fun w' => w'.cell? ⟨wr.heap.size, 0, none⟩ = some (.int .i64 x.kind) ∧ w'.cell? ⟨wr.heap.size, 1, none⟩ = some (.int .i64 x.lo) ∧ w'.cell? ⟨wr.heap.size, 2, none⟩ = some (.int .i64 x.hi) ∧ w'.cell? ⟨wr.heap.size, 3, none⟩ = some (.int .i64 x.n) ∧ w'.cell? ⟨wr.heap.size, 4, none⟩ = some (.slice A' x.to.length c') ∧ w'.cell? ⟨wr.heap.size, 5, none⟩ = some (.string x.name) ∧ w'.cell? ⟨wr.heap.size, 6, none⟩ = some (.string x.other) ∧ w'.cell? ⟨wr.heap.size, 7, none⟩ = some (.float .f64 x.weight)) (first | exact hbx0 | exact hbx2 | exact hbx3 | exact hbx4 | go_keep) (first | (go_at_call 163; (refine (HC.out.call A' c' HI1.out HP.out).mono ?_); rintro e w2 ⟨rfl, S', hI2, hch2, hS2⟩; have hsz2 : wr.heap.size < w2.heap.size := Nat.lt_of_lt_of_le (by simp) hch2.size; have hbx2 := recBox_chg hbx0 hch2 (fun h => by have := HSL.out _ h; omega); have hbx3 := hbx2.keep (up_alloc (up_refl _) (.cells #[.int .i64 x.lo, .int .i64 x.hi, .int .i64 (f n)] 175)); have hown2 := own_chg HO1.out hch2 (fun q hq h => HNE.out q h hq)) | (refine step_append_lies _ (by rfl) _ _ _ (by rfl) w.heap.size 175 ie _ 3 24 Tryz.underlying173 hie hze hsi hby hzc (by omega) (.slice Av n cv) n (rngsC (rngsOf f 0 ((T.take i).filter (fun x => decide (x.kind = kind))))) (by rfl) (hown2.alloc _) ⟨w2.heap.size, 0, none⟩ 1 1 [.int .i64 x.lo, .int .i64 x.hi, .int .i64 (f n)] (by rfl) (by rfl) (World.news_of_block (cs := #[.int .i64 x.lo, .int .i64 x.hi, .int .i64 (f n)]) (t := 175) (fr := (0, 0)) (heap_alloc_new w2 _)) (by simp [Value.oneCell']) (by omega) HNM.out.1 HNM.out.2 (by have := HCH.out.size; simp; omega) (w2.heap.size + 1) (by simp) ?_; intro gg cap w3 hown3 hgrow3 hat3 hlt3; have hbx4 := recBox_chg hbx3 (Chg.of_grown (M := fun q => (Value.slice Av n cv).ownBlock = some q) hgrow3 (fun q e => e)) (fun h => by have := (HOWN.out.lt _ h).2; omega)))
     exact mprops_1
    ·have e1 : (x.kind == kind) = false := bqf hk
     rw [if_neg (by simpa using hk)] at hsucc
     exact mprops_3
end Go.Proofs.YtnohcnneflogjaaGreat.M
