/- Same, of what is the same. -/
import Derived.Test.YtnohcnneflogjaaGreatK10
import Derived.StillTailTactics
import Derived.Test.YtnohcnneflogjaaGreatK09
import Derived.Test.YtnohcnneflogjaaGreatK24
set_option maxHeartbeats 16000000
set_option maxRecDepth 100000
set_option linter.unusedVariables false
set_option linter.unusedSimpArgs false
namespace Go.Proofs.YtnohcnneflogjaaGreat.M
open Go.RowKit
theorem Same3_calls (A B : Option Addr) (ca cb : Nat) (X : List Int) (w : World) (hA : Ints .i32 w A X) (hB : Ints .i32 w B X) (hl : X.length ≤ 35184372087808) :
 Calls Tryz.prog 26 #[.slice A X.length ca, .slice B X.length cb] w fun e w' => e = .returned (.bool true) ∧ ∃ q, w' = w.drewN q := by
 have HA := Az.mk hA
 have HB := Az.mk hB
 clear hA hB
 have t0 : ((X.length : Int) != (X.length : Int)) = false := by simp
 go_enter Tryz.func26, Tryz.ntmps26
 go_wp2
 go_loopg [5] X.length (fun k v5 w' => ∃ i : Nat, v5 = .int .i64 i ∧ Az (i + k = X.length) ∧ Az (∃ q, w' = w.drewN q))
 case atStart => exact ⟨0, rfl, ⟨Nat.zero_add _⟩, ⟨0, rfl⟩⟩
 case round =>
  obtain ⟨i, rfl, HI, HQ⟩ := hrel
  have HU : Az (Up w wr) := ⟨by obtain ⟨q, hq⟩ := HQ.out; rw [hq]; exact up_drewN (up_refl _) _⟩
  have hi := HI.out
  cases gk with
  | zero =>
    have hlt : decide ((i : Int) < (X.length : Int)) = false := dFz (by omega)
    have hln : decide (i < X.length) = false := dFz (by omega)
    clear hi
    go_wp2
    go_ret
    exact ⟨rfl, HQ.out⟩
  | succ k =>
    have hlt : decide ((i : Int) < (X.length : Int)) = true := dTz (by omega)
    have hln : decide (i < X.length) = true := dTz (by omega)
    have p1 : 0 ≤ (i : Int) := by omega
    have p2 : (i : Int) < (X.length : Int) := by omega
    obtain ⟨ad, hAx, hc⟩ := Ints.at_ HA.out i p1 p2
    obtain ⟨bd, hBx, hd⟩ := Ints.at_ HB.out i p1 p2
    subst hAx
    subst hBx
    replace hc := up_cell HU.out hc
    replace hd := up_cell HU.out hd
    rw [Int.toNat_natCast] at hc hd
    clear hi
    go_wp2
    go_quiet (fail)
    go_wp2
    go_roundg k
    case measure => have := HI.out; omega
    case rel => exact ⟨i + 1, rfl, ⟨by have := HI.out; omega⟩, ⟨by obtain ⟨q, hq⟩ := HQ.out; exact ⟨q + nq, by rw [hq, World.drewN_drewN]⟩⟩⟩
theorem Bits_quiet (b : Nat) (w : World) : Calls Tryz.prog 165 #[.float .f64 b] w fun e w' => e = .returned (.int .u64 b) ∧ w' = w := by
 have hb := run_bits b w
 go_enter Tryz.func165, Tryz.ntmps165
 go_wp2
 go_ret
 exact ⟨rfl, rfl⟩
theorem SameRecord_calls (x : Rec) (A B : Option Addr) (c d : Nat) (w : World) (hA : Ints .i32 w A x.to) (hB : Ints .i32 w B x.to) (hl : x.to.length ≤ 35184372087808) :
 Calls Tryz.prog 127 #[recV x A c, recV x B d] w fun e w' => e = .returned (.bool true) ∧ Up w w' := by
 have hu96 := Tryz.underlying113
 have HA : Az (Ints .i32 ((w.alloc (recO x A c)).alloc (recO x B d)) A x.to) := ⟨hA.up (up_alloc (up_alloc (up_refl _) _) _)⟩
 have HB : Az (Ints .i32 ((w.alloc (recO x A c)).alloc (recO x B d)) B x.to) := ⟨hB.up (up_alloc (up_alloc (up_refl _) _) _)⟩
 have HL := Az.mk hl
 have R1 : RecBox ((w.alloc (recO x A c)).alloc (recO x B d)) w.heap.size x A c := (recBox_new w x A c).keep (up_alloc (up_refl _) _)
 have R2 := recBox_new (w.alloc (recO x A c)) x B d
 rw [show (w.alloc (recO x A c)).heap.size = w.heap.size + 1 by simp] at R2
 obtain ⟨k0, k1, k2, k3, k4, k5, k6, k7⟩ := R1
 obtain ⟨l0, l1, l2, l3, l4, l5, l6, l7⟩ := R2
 clear hA hB hl
 go_enter Tryz.func127, Tryz.ntmps127
 go_wp2
 go_quiet (first | (go_at_call 26; exact Calls.quiet_of (Same3_calls A B c d x.to _ (HA.out.up (up_drewN (up_refl _) _)) (HB.out.up (up_drewN (up_refl _) _)) HL.out)) | (go_at_call 165; exact Calls.quiet_of_same (Bits_quiet _ _)))
 go_wp2
 go_ret
 exact ⟨rfl, up_drewN (up_alloc (up_alloc (up_refl _) _) _) _⟩
theorem Same_calls (A B : Option Addr) (c d : Nat) (T : List Rec) (w : World) (hA : Table w A T) (hB : Table w B T) (hW : ∀ x ∈ T, x.Wf) (hl : T.length ≤ 4096) :
 Calls Tryz.prog 75 #[.slice A T.length c, .slice B T.length d] w fun e w' => e = .returned (.bool true) ∧ Up w w' := by
 have hu96 := Tryz.underlying113
 have HA := Az.mk hA
 have HB := Az.mk hB
 have HW := Az.mk hW
 clear hA hB hW
 have t0 : ((T.length : Int) != (T.length : Int)) = false := by simp
 go_enter Tryz.func75, Tryz.ntmps75
 go_wp2
 go_loopg [5] T.length (fun k v5 w' => ∃ i : Nat, v5 = .int .i64 i ∧ Az (i + k = T.length) ∧ Az (Up w w'))
 case atStart => exact ⟨0, rfl, ⟨Nat.zero_add _⟩, ⟨up_refl _⟩⟩
 case round =>
  obtain ⟨i, rfl, HI, HU⟩ := hrel
  have hi := HI.out
  cases gk with
  | zero =>
    have hlt : decide ((i : Int) < (T.length : Int)) = false := dFz (by omega)
    have hln : decide (i < T.length) = false := dFz (by omega)
    clear hi
    go_wp2
    go_ret
    exact ⟨rfl, HU.out⟩
  | succ k =>
    have hlt : decide ((i : Int) < (T.length : Int)) = true := dTz (by omega)
    have hln : decide (i < T.length) = true := dTz (by omega)
    have p1 : 0 ≤ (i : Int) := by omega
    have p2 : (i : Int) < (T.length : Int) := by omega
    have hx : T[i]? = some T[i] := List.getElem?_eq_getElem (by omega)
    obtain ⟨x, hxx⟩ : ∃ x, T[i]'(by omega) = x := ⟨_, rfl⟩
    rw [hxx] at hx
    have hWx : x.Wf := by rw [← hxx]; exact HW.out _ (List.getElem_mem _)
    have HLX : Az (x.to.length ≤ 35184372087808) := ⟨by have := hWx.len; omega⟩
    obtain ⟨ad, hAd, A1, c1, hrec1, hto1⟩ := HA.out i x hx
    obtain ⟨bd, hBd, A2, c2, hrec2, hto2⟩ := HB.out i x hx
    subst hAd
    subst hBd
    obtain ⟨g0, g1, g2, g3, g4, g5, g6, g7⟩ := hrec1.up HU.out
    obtain ⟨f0, f1, f2, f3, f4, f5, f6, f7⟩ := hrec2.up HU.out
    have HT1 := Az.mk hto1
    have HT2 := Az.mk hto2
    clear hi hx hxx hWx hrec1 hrec2 hto1 hto2
    go_wp2
    go_still_tail 8, (by kernel_rfl)
    go_wp2_with (first | (go_at_call 127; (with_reducible refine (SameRecord_calls x A1 A2 c1 c2 _ (HT1.out.up (up_drew HU.out)) (HT2.out.up (up_drew HU.out)) HLX.out).mono ?_); rintro e w1 ⟨rfl, hb1⟩))
    go_roundg k
    case measure => have := HI.out; omega
    case rel => exact ⟨i + 1, rfl, ⟨by have := HI.out; omega⟩, ⟨up_trans (up_drew HU.out) hb1⟩⟩
end Go.Proofs.YtnohcnneflogjaaGreat.M
namespace Go.Proofs.YtnohcnneflogjaaGreat.M
open Go.RowKit
theorem recBox_of {w : World} {b : Nat} {x : Rec} {A : Option Addr} {c : Nat} (h : w.heap[b]? = some (.cells (recCells x A c) 113 (0, 0))) : RecBox w b x A c := by
 refine ⟨?_, ?_, ?_, ?_, ?_, ?_, ?_, ?_⟩ <;> simp [World.cell?, h, recCells]
def CopyOf (H : Nat) (w : World) (A : Option Addr) (c : Nat) (T : List Rec) : Prop :=
 ∃ L : List RecP, L.map (·.1) = T ∧ w.ownsRow H 113 8 (.slice A T.length c) T.length (recsCells L) ∧ ∀ p ∈ L, w.ownsRow H 21 1 (.slice p.2.1 p.1.to.length p.2.2) p.1.to.length (p.1.to.map (Value.int .i32)) ∧ ∀ a, p.2.1 = some a → H ≤ a.block ∧ a.block < w.heap.size ∧ (Value.slice A T.length c).ownBlock ≠ some a.block
theorem CopyOf.tab {H : Nat} {w : World} {A : Option Addr} {c : Nat} {T : List Rec} (h : CopyOf H w A c T) : TabFrom H w A T := by
 obtain ⟨L, hL1, hL2, hL3⟩ := h
 intro q x hx
 have h1 : (L.map (·.1))[q]? = some x := by rw [hL1]; exact hx
 rw [List.getElem?_map] at h1
 obtain ⟨p, hp, hpx⟩ := Option.map_eq_some_iff.1 h1
 subst hpx
 obtain ⟨h4, h5⟩ := hL3 p (List.mem_of_getElem? hp)
 rcases own_cases hL2 with ⟨hv, h0, _⟩ | ⟨g, cap, hv, hg, _, hcell⟩
 ·have := (List.getElem?_eq_some_iff.1 hx).1
  omega
 ·injection hv with e1 e2 e3
  subst e1
  obtain ⟨A9, c9, he9, hi9, _⟩ := own_ints h4
  injection he9 with q1 q2 q3
  refine ⟨_, p.2.1, p.2.2, rfl, hg, ?_, by rw [q1]; exact hi9, fun a ha => (h5 a ha).1⟩
  have hadd : (⟨g, 0, none⟩ : Addr).add (q * 8) = ⟨g, q * 8, none⟩ := by unfold Addr.add; split <;> simp_all
  rw [hadd]
  exact row_recAt hcell hp
theorem Copied_own (A : Option Addr) (c : Nat) (T : List Rec) (w : World) (hT : Table w A T) (hW : ∀ x ∈ T, x.Wf) (hl : T.length ≤ 4096) :
 Calls Tryz.prog 72 #[.slice A T.length c] w fun e w' => ∃ A' c', e = .returned (.slice A' T.length c') ∧ CopyOf w.heap.size w' A' c' T ∧ Up w w' := by
 have hu96 := Tryz.underlying113
 have HT := Az.mk hT
 have HW := Az.mk hW
 clear hT hW
 go_enter Tryz.func72, Tryz.ntmps72
 go_wp2
 go_loopg [3, 4] T.length (fun k v3 v4 w' => ∃ (i n : Nat) (Am : Option Addr) (cm : Nat), v4 = .int .i64 i ∧ v3 = .slice Am n cm ∧ Az (i + k = T.length ∧ n = i) ∧ Az (Up w w') ∧
  Az (∃ L : List RecP, L.map (·.1) = T.take i ∧ w'.ownsRow w.heap.size 113 8 (.slice Am n cm) n (recsCells L) ∧ ∀ p ∈ L, w'.ownsRow w.heap.size 21 1 (.slice p.2.1 p.1.to.length p.2.2) p.1.to.length (p.1.to.map (Value.int .i32)) ∧ ∀ a, p.2.1 = some a → w.heap.size ≤ a.block ∧ a.block < w'.heap.size ∧ (Value.slice Am n cm).ownBlock ≠ some a.block))
 case atStart => exact ⟨0, 0, none, 0, rfl, rfl, ⟨Nat.zero_add _, rfl⟩, ⟨up_refl _⟩, ⟨[], rfl, World.ownsRow_nil _ _ _ _, fun p hp => by cases hp⟩⟩
 case round =>
  obtain ⟨i, n, Am, cm, rfl, rfl, HI, HU, HL⟩ := hrel
  have hi := HI.out.1
  cases gk with
  | zero =>
    have hlt : decide ((i : Int) < (T.length : Int)) = false := dFz (by omega)
    have hln : decide (i < T.length) = false := dFz (by omega)
    have hn : n = T.length := by have := HI.out; omega
    have HN := Az.mk hn
    have HIE : Az (i = T.length) := ⟨by omega⟩
    clear hi hn
    go_wp2
    go_ret
    obtain ⟨L, hL1, hL2, hL3⟩ := HL.out
    rw [HIE.out, List.take_length] at hL1
    have hn := HN.out
    subst hn
    exact ⟨Am, cm, rfl, ⟨L, hL1, hL2, hL3⟩, HU.out⟩
  | succ k =>
    have hlt : decide ((i : Int) < (T.length : Int)) = true := dTz (by omega)
    have hln : decide (i < T.length) = true := dTz (by omega)
    have p1 : 0 ≤ (i : Int) := by omega
    have p2 : (i : Int) < (T.length : Int) := by omega
    have hx : T[i]? = some T[i] := List.getElem?_eq_getElem (by omega)
    obtain ⟨x, hxx⟩ : ∃ x, T[i]'(by omega) = x := ⟨_, rfl⟩
    rw [hxx] at hx
    have hWx : x.Wf := by rw [← hxx]; exact HW.out _ (List.getElem_mem _)
    have HLEN : Az (0 + x.to.length ≤ maxLen ∧ (0 + x.to.length) * 4 ≤ 140737488355328) := ⟨by have := hWx.len; unfold maxLen; omega⟩
    obtain ⟨ad, hAd, A', c', hrec, hto⟩ := HT.out i x hx
    subst hAd
    obtain ⟨g0, g1, g2, g3, g4, g5, g6, g7⟩ := hrec.up (up_alloc HU.out (recO x A' c'))
    obtain ⟨f0, f1, f2, f3, f4, f5, f6, f7⟩ := hrec.up HU.out
    have HX := Az.mk hx
    have HTO := Az.mk (hto.up (up_alloc HU.out (recO x A' c')))
    obtain ⟨ie, ze, hie, hze, hsi, hby, hzc⟩ := i32_info
    obtain ⟨ir, zr, hir, hzr, hsr, hbr, hzr2⟩ := rec_info
    obtain ⟨L, hL1, hL2, hL3⟩ := HL.out
    have HLO := Az.mk hL2
    have HBN : Az (n + 1 ≤ maxLen ∧ (n + 1) * 96 ≤ 140737488355328) := ⟨by have := HI.out.2; unfold maxLen; omega⟩
    clear hi hx hxx hWx hrec hto hL2
    go_wp2_with (first | (at_builtin; refine (wpList_append_row _ rfl _ _ 23 rfl w.heap.size 21 ie ze 1 4 Tryz.underlying23 hie hze hsi hby hzc (by decide) _ 0 [] rfl (World.ownsRow_nil _ _ _ _) A' x.to.length c' (x.to.map (Value.int .i32)) rfl (by simp) ?ha (ints_one _ _) ?hb ?hc ?hd ?_); (case ha => exact HTO.out); (case hb => exact HLEN.out.1); (case hc => exact HLEN.out.2); (case hd => exact (up_alloc HU.out _).size); intro v' w3 hown' hgrow hat; rw [Nat.zero_add, List.nil_append] at hown'; obtain ⟨A2, c2, rfl⟩ := own_any hown'; have hb3 : w3.heap[wr.heap.size]? = some (.cells (recCells x A' c') 113 (0, 0)) := (hgrow.block _ (by simp) (fun e => by cases e)).trans (heap_alloc_new wr _); have e4 : w3.cell? ⟨wr.heap.size, 4, none⟩ = some (.slice A' x.to.length c') := (by simp [World.cell?, hb3, recCells]); have ef : w3.frozen? ⟨wr.heap.size, 4, none⟩ = false := (by simp [World.frozen?, hb3]); have hb4 : (w3.setCell ⟨wr.heap.size, 4, none⟩ (.slice A2 x.to.length c2)).heap[wr.heap.size]? = some (.cells (recCells x A2 c2) 113 (0, 0)) := (by rw [box_set hb3]; rfl); obtain ⟨l0, l1, l2, l3, l4, l5, l6, l7⟩ := recBox_of hb4; have hown4 : (w3.setCell ⟨wr.heap.size, 4, none⟩ (.slice A2 x.to.length c2)).ownsRow w.heap.size 113 8 (.slice Am n cm) n (recsCells L) := own_block HLO.out (fun g hg => by have hlt := (HLO.out.lt g hg).2; rw [Below.heap_setCell _ _ _ _ (show g ≠ wr.heap.size by omega), hgrow.block g (by simp; omega) (fun e => by cases e)]; exact Below.heap_alloc wr _ g hlt); have hbs := fun W => build_rec x A2 c2 W) | (at_builtin; refine (wpList_append_row _ rfl _ _ 22 rfl w.heap.size 113 ir zr 8 96 Tryz.underlying22 hir hzr hsr hbr hzr2 (by decide) (.slice Am n cm) n (recsCells L) rfl (hown4.alloc _) (some ⟨w3.heap.size, 0, none⟩) 1 1 (pcells (x, A2, c2)) rfl rfl ?ga (pcells_one _) ?gb ?gc ?gd ?_); (case gb => exact HBN.out.1); (case gc => exact HBN.out.2); (case gd => have := HU.out.size; have := hgrow.size; simp at *; omega); (case ga => exact fun j u hu => ⟨_, rfl, by have := rec_new (w3.setCell ⟨wr.heap.size, 4, none⟩ (.slice A2 x.to.length c2)) x A2 c2 j u hu; rwa [World.size_setCell] at this⟩); intro v5 w5 hown5 hgrow5 hat5))
    have hup4 : Up w (w3.setCell ⟨wr.heap.size, 4, none⟩ (.slice A2 x.to.length c2)) := up_setCell ((up_alloc HU.out (recO x A' c')).grown hgrow (up_alloc HU.out (recO x A' c')).size (fun k hk => by cases hk)) HU.out.size _
    have hup5 : Up w w5 := (up_alloc hup4 (recO x A2 c2)).grown hgrow5 (up_alloc hup4 (recO x A2 c2)).size (fun k hk => (HLO.out.lt k hk).1)
    have HUP5 := Az.mk hup5
    have hch : Chg (fun q => (Value.slice Am n cm).ownBlock = some q) wr w5 := ((((Chg.of_up (M := fun q => (Value.slice Am n cm).ownBlock = some q) (up_alloc (up_refl wr) (recO x A' c'))).trans (Chg.of_grown (M := fun _ => False) hgrow (fun q e => by cases e)) (fun _ h => h.elim)).trans (Chg.of_set (M := fun q => q = wr.heap.size) w3 ⟨wr.heap.size, 4, none⟩ (.slice A2 x.to.length c2) rfl) (fun q h => .inr (by omega))).trans (Chg.of_up (M := fun _ => False) (up_alloc (up_refl _) (recO x A2 c2))) (fun _ h => h.elim)).trans (Chg.of_grown (M := fun q => (Value.slice Am n cm).ownBlock = some q) hgrow5 (fun q e => e)) (fun _ h => .inl h)
    have hch2 : Chg (fun q => q = wr.heap.size ∨ (Value.slice Am n cm).ownBlock = some q) w3 w5 := ((Chg.of_set (M := fun q => q = wr.heap.size ∨ (Value.slice Am n cm).ownBlock = some q) w3 ⟨wr.heap.size, 4, none⟩ (.slice A2 x.to.length c2) (.inl rfl)).trans (Chg.of_up (M := fun _ => False) (up_alloc (up_refl _) (recO x A2 c2))) (fun _ h => h.elim)).trans (Chg.of_grown (M := fun q => (Value.slice Am n cm).ownBlock = some q) hgrow5 (fun q e => e)) (fun _ h => .inl (.inr h))
    have hs3 : w3.heap.size ≤ w5.heap.size := hch2.size
    have hsw : wr.heap.size + 1 ≤ w3.heap.size := by have := hgrow.size; simpa using this
    have hnew5 : ∀ q, v5.ownBlock = some q → (Value.slice Am n cm).ownBlock = some q ∨ w3.heap.size ≤ q := fun q hq => by
     rcases hat5 with h | h
     ·exact .inl (by rw [← h]; exact hq)
     ·right
      rw [h] at hq
      injection hq with hq
      simp at hq
      omega
    have HOWN2 : Az (w3.ownsRow w.heap.size 21 1 (.slice A2 x.to.length c2) x.to.length (x.to.map (Value.int .i32))) := ⟨hown'⟩
    obtain ⟨A5, c5, rfl⟩ := own_any hown5
    have HREL : Az (∃ L : List RecP, L.map (·.1) = T.take (i + 1) ∧ w5.ownsRow w.heap.size 113 8 (.slice A5 (n + 1) c5) (n + 1) (recsCells L) ∧ ∀ p ∈ L, w5.ownsRow w.heap.size 21 1 (.slice p.2.1 p.1.to.length p.2.2) p.1.to.length (p.1.to.map (Value.int .i32)) ∧ ∀ a, p.2.1 = some a → w.heap.size ≤ a.block ∧ a.block < w5.heap.size ∧ (Value.slice A5 (n + 1) c5).ownBlock ≠ some a.block) := ⟨L ++ [(x, A2, c2)], by rw [List.map_append, hL1, List.take_add_one, HX.out]; rfl, by simpa [recsCells] using hown5, fun p hp => by
     rcases List.mem_append.1 hp with hp | hp
     ·obtain ⟨h1, h2⟩ := hL3 p hp
      refine ⟨own_chg h1 hch (fun b hb h => by
       cases hA : p.2.1 with
       | none => rw [hA] at hb; cases hb
       | some a0 =>
         rw [hA] at hb
         have hb' : a0.block = b := by injection hb
         exact (h2 a0 hA).2.2 (by rw [hb']; exact h)), fun a ha => ⟨(h2 a ha).1, Nat.lt_of_lt_of_le (h2 a ha).2.1 hch.size, fun h => ?_⟩⟩
      rcases hnew5 _ h with h3 | h3
      ·exact (h2 a ha).2.2 h3
      ·have := (h2 a ha).2.1
       omega
     ·rw [List.mem_singleton] at hp
      subst hp
      have hblk : ∀ a, A2 = some a → a.block = wr.heap.size + 1 := fun a ha => by
       subst ha
       rcases hat with h | h
       ·cases h
       ·injection h with h
        simpa using h
      refine ⟨own_chg HOWN2.out hch2 (fun b hb0 h => ?_), fun a ha => ⟨?_, ?_, fun h => ?_⟩⟩
      ·have hb : b = wr.heap.size + 1 := by
        cases hA : A2 with
        | none => rw [hA] at hb0; cases hb0
        | some a0 =>
          rw [hA] at hb0
          have hb' : a0.block = b := by injection hb0
          rw [← hb']
          exact hblk a0 hA
       rcases h with h | h
       ·omega
       ·have := (HLO.out.lt _ h).2
        omega
      ·have hb := hblk a ha
       have := HU.out.size
       show w.heap.size ≤ a.block
       omega
      ·have hb := hblk a ha
       have h1 := (own_lt_some hown' ha).2
       show a.block < w5.heap.size
       omega
      ·have hb := hblk a ha
       have h1 := (own_lt_some hown' ha).2
       rcases hnew5 _ h with h3 | h3
       ·have := (HLO.out.lt _ h3).2
        change (a.block) < _ at this
        omega
       ·change w3.heap.size ≤ a.block at h3
        omega⟩
    clear hch hch2 hs3 hsw hnew5 hup4 hup5 hown5 hgrow5 hat5 hown' hgrow hat hown4 hb3 hb4 hL1 hL3
    go_roundg k
    case measure => have := HI.out.1; omega
    case rel => exact ⟨i + 1, n + 1, A5, c5, rfl, rfl, ⟨by have := HI.out.1; omega, by have := HI.out.2; omega⟩, HUP5, HREL⟩
theorem Copied_calls (A : Option Addr) (c : Nat) (T : List Rec) (w : World) (hT : Table w A T) (hW : ∀ x ∈ T, x.Wf) (hl : T.length ≤ 4096) :
 Calls Tryz.prog 72 #[.slice A T.length c] w fun e w' => ∃ A' c', e = .returned (.slice A' T.length c') ∧ TabFrom w.heap.size w' A' T ∧ Up w w' := by
 refine (Copied_own A c T w hT hW hl).mono ?_
 rintro e w' ⟨A', c', h1, h2, h3⟩
 exact ⟨A', c', h1, h2.tab, h3⟩
end Go.Proofs.YtnohcnneflogjaaGreat.M
