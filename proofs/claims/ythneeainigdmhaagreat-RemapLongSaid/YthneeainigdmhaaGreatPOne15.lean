/- remap.One and the document's, walked. (printed by mkone15.py) -/
import Derived.Test.YthneeainigdmhaaGreatK36
import Derived.Test.YthneeainigdmhaaGreatPRef2
set_option linter.unusedVariables false
set_option linter.unusedSimpArgs false
namespace Go.Proofs.YthneeainigdmhaaGreat.M
open Go.RowKit
set_option maxHeartbeats 8000000
set_option maxRecDepth 100000

/-- Does a deviation map, too? -/
def trnB (fl : Int) : Bool := bits .and .i64 fl 16 != 0
/-- What a number is mapped to (15.1). -/
def oneF (T : List Rec) (fl : Int) (d : Int) : List Int :=
  if statF T d = 2 then [] else if statF T d = 3 then mapF T d else if statF T d = 4 ∧ trnB fl = true then mapF T d else [d]
theorem one_cases (T : List Rec) (fl d : Int) : (statF T d = 2 ∧ oneF T fl d = []) ∨ (statF T d = 3 ∧ oneF T fl d = mapF T d) ∨ (statF T d = 4 ∧ trnB fl = true ∧ oneF T fl d = mapF T d) ∨ (statF T d = 4 ∧ trnB fl = false ∧ oneF T fl d = [d]) ∨ (statF T d ≠ 2 ∧ statF T d ≠ 3 ∧ statF T d ≠ 4 ∧ oneF T fl d = [d]) := by
  unfold oneF
  by_cases h2 : statF T d = 2
  · exact .inl ⟨h2, by rw [if_pos h2]⟩
  rw [if_neg h2]
  by_cases h3 : statF T d = 3
  · exact .inr (.inl ⟨h3, by rw [if_pos h3]⟩)
  rw [if_neg h3]
  by_cases h4 : statF T d = 4
  · cases hu : trnB fl
    · exact .inr (.inr (.inr (.inl ⟨h4, rfl, by rw [if_neg (fun h => by cases h.2)]⟩)))
    · exact .inr (.inr (.inl ⟨h4, rfl, by rw [if_pos ⟨h4, rfl⟩]⟩))
  · exact .inr (.inr (.inr (.inr ⟨h2, h3, h4, by rw [if_neg (fun h => h4 h.1)]⟩)))
theorem own_one (w : World) (a : Int) : (w.alloc (.cells #[.int .i32 a] 21)).ownsRow w.heap.size 21 1 (.slice (some ⟨w.heap.size, 0, none⟩) 1 1) 1 [.int .i32 a] :=
  World.ownsRow_lit w #[.int .i32 a] 1 (Nat.le_refl _) (by decide) rfl
theorem own_base {w : World} {b b' : Nat} {e : TypeId} {s : Nat} {v : Value} {n : Nat} {xs : List Value} (h : w.ownsRow b e s v n xs) (hb : b' ≤ b) : w.ownsRow b' e s v n xs := by
  refine ⟨h.1, ?_⟩
  rcases h.2 with h | ⟨g, cap, cur, h1, h2, h3⟩
  · exact .inl h
  · exact .inr ⟨g, cap, cur, h1, Nat.le_trans hb h2, h3⟩
theorem One_nil (d fl : Int) (w : World) : Calls Tryz.prog 67 #[.pointer none, .int .i32 d, .int .i64 fl] w fun e w' => e = .returned (.slice none 0 0) ∧ w = w' := by
  go_enter Tryz.func67, Tryz.ntmps67
  go_wp2
  go_ret
  exact ⟨rfl, rfl⟩

theorem One_calls {H : Nat} {w : World} {bd : Nat} {D : DataV} {T : List Rec} (hD : DataAt H w bd D T) (hG : Good T) (d fl : Int) (r : List Int) (hr : oneF T fl d = r) (hd1 : -2147483648 ≤ d) (hd2 : d ≤ 2147483647) :
    Calls Tryz.prog 67 #[.pointer (some ⟨bd, 0, none⟩), .int .i32 d, .int .i64 fl] w (RetRow r w) := by
  have HD := Aside0.mk hD
  have HG := Aside0.mk hG
  obtain ⟨⟨a0, a1, a2, a3, a4, a5, a6⟩, ⟨a7, a8, a9, a10, a11⟩, a12, a13, a14, a15, a16⟩ := hD.all
  clear hG hD
  have HR1 := Aside0.mk hd1
  have HR2 := Aside0.mk hd2
  clear hd1 hd2
  rcases one_cases T fl d with ⟨h, e⟩ | ⟨h, e⟩ | ⟨h, hu, e⟩ | ⟨h, hu, e⟩ | ⟨h2, h3, h4, e⟩
  · rw [e] at hr
    have HS := Aside0.mk h
    subst hr
    clear h e
    go_enter Tryz.func67, Tryz.ntmps67
    go_wp2_with (first | (go_at_call 28; (with_reducible refine (HD.out.Status d _ HS.out HR1.out HR2.out).mono ?_); rintro e w1 ⟨rfl, hup1⟩; have HU1 := Aside0.mk hup1; obtain ⟨⟨a0, a1, a2, a3, a4, a5, a6⟩, ⟨a7, a8, a9, a10, a11⟩, a12, a13, a14, a15, a16⟩ := (HD.out.up HU1.out).all; clear hup1))
    go_ret
    exact ⟨_, rfl, World.ownsRow_nil _ _ _ _, HU1.out⟩
  · have HMP : Aside0 (mapF T d = r) := ⟨e.symm.trans hr⟩
    have HS := Aside0.mk h
    skip
    skip
    skip
    clear h e hr
    go_enter Tryz.func67, Tryz.ntmps67
    go_wp2_with (first | (go_at_call 28; (with_reducible refine (HD.out.Status d _ HS.out HR1.out HR2.out).mono ?_); rintro e w1 ⟨rfl, hup1⟩; have HU1 := Aside0.mk hup1; obtain ⟨⟨a0, a1, a2, a3, a4, a5, a6⟩, ⟨a7, a8, a9, a10, a11⟩, a12, a13, a14, a15, a16⟩ := (HD.out.up HU1.out).all; clear hup1) | (go_at_call 27; (with_reducible refine ((HD.out.up HU1.out).Mapping HG.out d r HMP.out HR1.out HR2.out).mono ?_); rintro e w2 ⟨v2, rfl, hown2, hup2⟩; have HU2 := Aside0.mk hup2; have HO2 := Aside0.mk hown2; clear hown2 hup2))
    go_ret
    exact ⟨_, rfl, own_base HO2.out HU1.out.size, up_trans HU1.out HU2.out⟩
  · have HMP : Aside0 (mapF T d = r) := ⟨e.symm.trans hr⟩
    have HS := Aside0.mk h
    have hu1 : (bits .and .i64 fl 16 != 0) = true := hu
    have hu2 : ¬ bits .and .i64 fl 16 = 0 := bne_iff_ne.mp hu1
    clear hu
    clear h e hr
    go_enter Tryz.func67, Tryz.ntmps67
    go_wp2_with (first | (go_at_call 28; (with_reducible refine (HD.out.Status d _ HS.out HR1.out HR2.out).mono ?_); rintro e w1 ⟨rfl, hup1⟩; have HU1 := Aside0.mk hup1; obtain ⟨⟨a0, a1, a2, a3, a4, a5, a6⟩, ⟨a7, a8, a9, a10, a11⟩, a12, a13, a14, a15, a16⟩ := (HD.out.up HU1.out).all; clear hup1) | (go_at_call 27; (with_reducible refine ((HD.out.up HU1.out).Mapping HG.out d r HMP.out HR1.out HR2.out).mono ?_); rintro e w2 ⟨v2, rfl, hown2, hup2⟩; have HU2 := Aside0.mk hup2; have HO2 := Aside0.mk hown2; clear hown2 hup2))
    go_ret
    exact ⟨_, rfl, own_base HO2.out HU1.out.size, up_trans HU1.out HU2.out⟩
  · rw [e] at hr
    have HS := Aside0.mk h
    subst hr
    have hu1 : (bits .and .i64 fl 16 != 0) = false := hu
    have hu2 : bits .and .i64 fl 16 = 0 := by simpa using hu1
    clear h e hu
    go_enter Tryz.func67, Tryz.ntmps67
    go_wp2_with (first | (go_at_call 28; (with_reducible refine (HD.out.Status d _ HS.out HR1.out HR2.out).mono ?_); rintro e w1 ⟨rfl, hup1⟩; have HU1 := Aside0.mk hup1; obtain ⟨⟨a0, a1, a2, a3, a4, a5, a6⟩, ⟨a7, a8, a9, a10, a11⟩, a12, a13, a14, a15, a16⟩ := (HD.out.up HU1.out).all; clear hup1))
    go_ret
    exact ⟨_, rfl, own_base (own_one _ _) HU1.out.size, up_alloc HU1.out _⟩
  · rw [e] at hr
    obtain ⟨s, hs⟩ : ∃ s, statF T d = s := ⟨_, rfl⟩
    have HS := Aside0.mk hs
    rw [hs] at h2 h3 h4
    have e2 : (s == 2) = false := beq_eq_false_iff_ne.mpr h2
    have e3 : (s == 3) = false := beq_eq_false_iff_ne.mpr h3
    have e4 : (s == 4) = false := beq_eq_false_iff_ne.mpr h4
    subst hr
    clear h2 h3 h4 e hs
    go_enter Tryz.func67, Tryz.ntmps67
    go_wp2_with (first | (go_at_call 28; (with_reducible refine (HD.out.Status d _ HS.out HR1.out HR2.out).mono ?_); rintro e w1 ⟨rfl, hup1⟩; have HU1 := Aside0.mk hup1; obtain ⟨⟨a0, a1, a2, a3, a4, a5, a6⟩, ⟨a7, a8, a9, a10, a11⟩, a12, a13, a14, a15, a16⟩ := (HD.out.up HU1.out).all; clear hup1))
    go_ret
    exact ⟨_, rfl, own_base (own_one _ _) HU1.out.size, up_alloc HU1.out _⟩
theorem ROne_calls (At : Option Addr) (ct : Nat) (T : List Rec) (d fl : Int) (w : World) (hT : Table w At T) (hR : ∀ x ∈ T, Right x) (hW : ∀ x ∈ T, x.Wf) (hl : T.length ≤ 4096) (r : List Int) (hr : oneF T fl d = r) (hd1 : -2147483648 ≤ d) (hd2 : d ≤ 2147483647) :
    Calls Tryz.prog 68 #[.slice At T.length ct, .int .i32 d, .int .i64 fl] w (RetRow r w) := by
  have HT := Aside0.mk hT
  have HRT := Aside0.mk hR
  have HW := Aside0.mk hW
  have HTL := Aside0.mk hl
  clear hT hR hW hl
  have HR1 := Aside0.mk hd1
  have HR2 := Aside0.mk hd2
  clear hd1 hd2
  rcases one_cases T fl d with ⟨h, e⟩ | ⟨h, e⟩ | ⟨h, hu, e⟩ | ⟨h, hu, e⟩ | ⟨h2, h3, h4, e⟩
  · rw [e] at hr
    have HS := Aside0.mk h
    subst hr
    clear h e
    go_enter Tryz.func68, Tryz.ntmps68
    go_wp2_with (first | (go_at_call 29; (with_reducible refine (RStatus_calls At ct T d _ HT.out HRT.out HW.out HTL.out HR1.out HR2.out _ HS.out).mono ?_); rintro e w1 ⟨rfl, hup1⟩; have HU1 := Aside0.mk hup1; clear hup1))
    go_ret
    exact ⟨_, rfl, World.ownsRow_nil _ _ _ _, HU1.out⟩
  · have HMP : Aside0 (mapF T d = r) := ⟨e.symm.trans hr⟩
    have HS := Aside0.mk h
    skip
    skip
    skip
    clear h e hr
    go_enter Tryz.func68, Tryz.ntmps68
    go_wp2_with (first | (go_at_call 29; (with_reducible refine (RStatus_calls At ct T d _ HT.out HRT.out HW.out HTL.out HR1.out HR2.out _ HS.out).mono ?_); rintro e w1 ⟨rfl, hup1⟩; have HU1 := Aside0.mk hup1; clear hup1) | (go_at_call 31; (with_reducible refine (RMapping_calls At ct T d _ (HT.out.up HU1.out) HRT.out HW.out HTL.out HR1.out HR2.out r HMP.out).mono ?_); rintro e w2 ⟨v2, rfl, hown2, hup2⟩; have HU2 := Aside0.mk hup2; have HO2 := Aside0.mk hown2; clear hown2 hup2))
    go_ret
    exact ⟨_, rfl, own_base HO2.out HU1.out.size, up_trans HU1.out HU2.out⟩
  · have HMP : Aside0 (mapF T d = r) := ⟨e.symm.trans hr⟩
    have HS := Aside0.mk h
    have hu1 : (bits .and .i64 fl 16 != 0) = true := hu
    have hu2 : ¬ bits .and .i64 fl 16 = 0 := bne_iff_ne.mp hu1
    clear hu
    clear h e hr
    go_enter Tryz.func68, Tryz.ntmps68
    go_wp2_with (first | (go_at_call 29; (with_reducible refine (RStatus_calls At ct T d _ HT.out HRT.out HW.out HTL.out HR1.out HR2.out _ HS.out).mono ?_); rintro e w1 ⟨rfl, hup1⟩; have HU1 := Aside0.mk hup1; clear hup1) | (go_at_call 31; (with_reducible refine (RMapping_calls At ct T d _ (HT.out.up HU1.out) HRT.out HW.out HTL.out HR1.out HR2.out r HMP.out).mono ?_); rintro e w2 ⟨v2, rfl, hown2, hup2⟩; have HU2 := Aside0.mk hup2; have HO2 := Aside0.mk hown2; clear hown2 hup2))
    go_ret
    exact ⟨_, rfl, own_base HO2.out HU1.out.size, up_trans HU1.out HU2.out⟩
  · rw [e] at hr
    have HS := Aside0.mk h
    subst hr
    have hu1 : (bits .and .i64 fl 16 != 0) = false := hu
    have hu2 : bits .and .i64 fl 16 = 0 := by simpa using hu1
    clear h e hu
    go_enter Tryz.func68, Tryz.ntmps68
    go_wp2_with (first | (go_at_call 29; (with_reducible refine (RStatus_calls At ct T d _ HT.out HRT.out HW.out HTL.out HR1.out HR2.out _ HS.out).mono ?_); rintro e w1 ⟨rfl, hup1⟩; have HU1 := Aside0.mk hup1; clear hup1))
    go_ret
    exact ⟨_, rfl, own_base (own_one _ _) HU1.out.size, up_alloc HU1.out _⟩
  · rw [e] at hr
    obtain ⟨s, hs⟩ : ∃ s, statF T d = s := ⟨_, rfl⟩
    have HS := Aside0.mk hs
    rw [hs] at h2 h3 h4
    have e2 : (s == 2) = false := beq_eq_false_iff_ne.mpr h2
    have e3 : (s == 3) = false := beq_eq_false_iff_ne.mpr h3
    have e4 : (s == 4) = false := beq_eq_false_iff_ne.mpr h4
    subst hr
    clear h2 h3 h4 e hs
    go_enter Tryz.func68, Tryz.ntmps68
    go_wp2_with (first | (go_at_call 29; (with_reducible refine (RStatus_calls At ct T d _ HT.out HRT.out HW.out HTL.out HR1.out HR2.out _ HS.out).mono ?_); rintro e w1 ⟨rfl, hup1⟩; have HU1 := Aside0.mk hup1; clear hup1))
    go_ret
    exact ⟨_, rfl, own_base (own_one _ _) HU1.out.size, up_alloc HU1.out _⟩
end Go.Proofs.YthneeainigdmhaaGreat.M
