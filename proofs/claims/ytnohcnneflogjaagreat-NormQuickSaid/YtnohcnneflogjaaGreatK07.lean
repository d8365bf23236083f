/- Class and Open, walked: the program's and the document's. -/
import Derived.Test.YtnohcnneflogjaaGreatK05
set_option maxHeartbeats 8000000
set_option maxRecDepth 100000
set_option linter.unusedVariables false
set_option linter.unusedSimpArgs false
namespace Go.Proofs.YtnohcnneflogjaaGreat.M
open Go.RowKit
theorem RClass_calls (A : Option Addr) (c : Nat) (T : List Rec) (d : Int) (w : World) (hT : Table w A T) (hR : ∀ x ∈ T, Right x) (hW : ∀ x ∈ T, x.Wf) (hl : T.length ≤ 4096) (hd1 : -2147483648 ≤ d) (hd2 : d ≤ 2147483647) (r : Int) (hr : classF T d = r) :
 Calls Tryz.prog 132 #[.slice A T.length c, .int .i32 d] w fun e w' => e = .returned (.int .i64 r) ∧ Up w w' := by
 have hu96 := Tryz.underlying113
 have HT := Az.mk hT
 have HR := Az.mk hR
 unfold classF at hr
 rcases find_cases T 2 d with ⟨h1, h2⟩ | ⟨i, x, hi, hx, h1, h2, h3⟩
 ·rw [h2] at hr
  have hr' : (0 : Int) = r := hr
  subst hr'
  have H1 := Az.mk h1
  clear hT hR hW hr h1 h2
  go_enter Tryz.func132, Tryz.ntmps132
  go_wp2_with (first | (go_at_call 143; (with_reducible refine (RFind_calls A c T 2 d (-1) _ HT.out HR.out hl (by decide) (by decide) hd1 hd2 H1.out).mono ?_); rintro e w1 ⟨rfl, hb1⟩))
  go_ret
  exact ⟨rfl, hb1⟩
 ·rw [h2] at hr
  have hr' : x.n = r := hr
  subst hr'
  have H1 := Az.mk h1
  obtain ⟨ad, hA, A', c', hrec, hto⟩ := hT i x hx
  subst hA
  have HREC := Az.mk hrec
  have p1 : 0 ≤ (i : Int) := by omega
  have p2 : (i : Int) < (T.length : Int) := by omega
  have p3 : decide ((i : Int) < 0) = false := dFz (by omega)
  have p4 : decide (0 ≤ (i : Int)) = true := dTz (by omega)
  clear hT hR hW hr h1 h2 h3 hrec hto hx
  go_enter Tryz.func132, Tryz.ntmps132
  go_wp2_with (first | (go_at_call 143; (with_reducible refine (RFind_calls _ c T 2 d i _ HT.out HR.out hl (by decide) (by decide) hd1 hd2 H1.out).mono ?_); rintro e w1 ⟨rfl, hb1⟩; obtain ⟨g0, g1, g2, g3, g4, g5, g6, g7⟩ := HREC.out.up hb1))
  go_ret
  exact ⟨rfl, hb1⟩
theorem Class_calls (A : Option Addr) (c : Nat) (T : List Rec) (d : Int) (w : World) (hT : Table w A T) (hR : ∀ x ∈ T, Right x) (hW : ∀ x ∈ T, x.Wf) (hl : T.length ≤ 4096) (hd1 : -2147483648 ≤ d) (hd2 : d ≤ 2147483647) (r : Int) (hr : classF T d = r) :
 Calls Tryz.prog 185 #[.slice A T.length c, .int .i32 d] w fun e w' => e = .returned (.int .i64 r) ∧ Up w w' := by
 have hu96 := Tryz.underlying113
 have HT := Az.mk hT
 have HR := Az.mk hR
 unfold classF at hr
 rcases find_cases T 2 d with ⟨h1, h2⟩ | ⟨i, x, hi, hx, h1, h2, h3⟩
 ·rw [h2] at hr
  have hr' : (0 : Int) = r := hr
  subst hr'
  have H1 := Az.mk h1
  clear hT hR hW hr h1 h2
  go_enter Tryz.func185, Tryz.ntmps185
  go_wp2_with (first | (go_at_call 135; (with_reducible refine (Find_calls A c T 2 d (-1) _ HT.out HR.out hl (by decide) (by decide) hd1 hd2 H1.out).mono ?_); rintro e w1 ⟨rfl, hb1⟩))
  go_ret
  exact ⟨rfl, hb1⟩
 ·rw [h2] at hr
  have hr' : x.n = r := hr
  subst hr'
  have H1 := Az.mk h1
  obtain ⟨ad, hA, A', c', hrec, hto⟩ := hT i x hx
  subst hA
  have HREC := Az.mk hrec
  have p1 : 0 ≤ (i : Int) := by omega
  have p2 : (i : Int) < (T.length : Int) := by omega
  have p3 : decide ((i : Int) < 0) = false := dFz (by omega)
  have p4 : decide (0 ≤ (i : Int)) = true := dTz (by omega)
  clear hT hR hW hr h1 h2 h3 hrec hto hx
  go_enter Tryz.func185, Tryz.ntmps185
  go_wp2_with (first | (go_at_call 135; (with_reducible refine (Find_calls _ c T 2 d i _ HT.out HR.out hl (by decide) (by decide) hd1 hd2 H1.out).mono ?_); rintro e w1 ⟨rfl, hb1⟩; obtain ⟨g0, g1, g2, g3, g4, g5, g6, g7⟩ := HREC.out.up hb1))
  go_ret
  exact ⟨rfl, hb1⟩
theorem ROpen_calls (A : Option Addr) (c : Nat) (T : List Rec) (d : Int) (w : World) (hT : Table w A T) (hR : ∀ x ∈ T, Right x) (hW : ∀ x ∈ T, x.Wf) (hl : T.length ≤ 4096) (hd1 : -2147483648 ≤ d) (hd2 : d ≤ 2147483647) :
 Calls Tryz.prog 138 #[.slice A T.length c, .int .i32 d] w (RetRow (openF T d) w) := by
 have hu96 := Tryz.underlying113
 have HT := Az.mk hT
 have HR := Az.mk hR
 cases hs : syl d with
 | true =>
   have ho : openF T d = [sylA d, sylB d] := by unfold openF; rw [if_pos hs]
   rw [ho]
   have hb2 := fun a b W => build_two a b W
   have hc := syl_iff hs
   have p1 : 44032 ≤ d := hc.1
   have p2 : d ≤ 55203 := hc.2
   clear ho hc hT hR hW HT HR
   by_cases ht : (d - 44032) % 28 = 0
   ·have d1 : ((d - 44032) % 28 == 0) = true := beq_iff_eq.mpr ht
    have hA : sylA d = 4352 + (d - 44032) / 588 := by unfold sylA; rw [if_pos ht]
    have hB : sylB d = 4449 + (d - 44032) / 28 % 21 := by unfold sylB; rw [if_pos ht]
    rw [hA, hB]
    clear ht hA hB
    go_enter Tryz.func138, Tryz.ntmps138
    go_wp2_with (first | (go_at_call 153; (with_reducible refine (Syllable_calls d _ _ hs).mono ?_); rintro e w1 ⟨rfl, rfl⟩))
    go_ret
    exact ⟨_, rfl, own_two _ _ _, up_alloc (up_refl _) _⟩
   ·have d1 : ((d - 44032) % 28 == 0) = false := bqf ht
    have hA : sylA d = d - (d - 44032) % 28 := by unfold sylA; rw [if_neg ht]
    have hB : sylB d = 4519 + (d - 44032) % 28 := by unfold sylB; rw [if_neg ht]
    rw [hA, hB]
    clear ht hA hB
    go_enter Tryz.func138, Tryz.ntmps138
    go_wp2_with (first | (go_at_call 153; (with_reducible refine (Syllable_calls d _ _ hs).mono ?_); rintro e w1 ⟨rfl, rfl⟩))
    go_ret
    exact ⟨_, rfl, own_two _ _ _, up_alloc (up_refl _) _⟩
 | false =>
   rcases find_cases T 3 d with ⟨h1, h2⟩ | ⟨i, x, hi, hx, h1, h2, h3⟩
   ·have ho : openF T d = [] := by unfold openF; rw [hs, if_neg (by decide), h2]
    rw [ho]
    have H1 := Az.mk h1
    clear hT hR hW ho h1 h2
    go_enter Tryz.func138, Tryz.ntmps138
    go_wp2_with (first | (go_at_call 153; (with_reducible refine (Syllable_calls d _ _ hs).mono ?_); rintro e w1 ⟨rfl, rfl⟩) | (go_at_call 143; (with_reducible refine (RFind_calls A c T 3 d (-1) _ HT.out HR.out hl (by decide) (by decide) hd1 hd2 H1.out).mono ?_); rintro e w2 ⟨rfl, hb1⟩))
    go_ret
    exact ⟨_, rfl, World.ownsRow_nil _ _ _ _, hb1⟩
   ·have ho : openF T d = x.to := by unfold openF; rw [hs, if_neg (by decide), h2]
    rw [ho]
    have H1 := Az.mk h1
    have hxw := hW x (List.mem_of_getElem? hx)
    have HLEN : Az (0 + x.to.length ≤ maxLen ∧ (0 + x.to.length) * 4 ≤ 140737488355328) := ⟨by have := hxw.len; unfold maxLen; omega⟩
    obtain ⟨ad, hA, A', c', hrec, hto⟩ := hT i x hx
    subst hA
    have HREC := Az.mk hrec
    have HTO := Az.mk hto
    have p1 : 0 ≤ (i : Int) := by omega
    have p2 : (i : Int) < (T.length : Int) := by omega
    have p3 : decide ((i : Int) < 0) = false := dFz (by omega)
    have p4 : decide (0 ≤ (i : Int)) = true := dTz (by omega)
    obtain ⟨ie, ze, hie, hze, hsi, hby, hzc⟩ := i32_info
    clear hT hR hW ho h1 h2 h3 hrec hto hx hxw
    go_enter Tryz.func138, Tryz.ntmps138
    go_wp2_with (first | (go_at_call 153; (with_reducible refine (Syllable_calls d _ _ hs).mono ?_); rintro e w1 ⟨rfl, rfl⟩) | (go_at_call 143; (with_reducible refine (RFind_calls _ c T 3 d i _ HT.out HR.out hl (by decide) (by decide) hd1 hd2 H1.out).mono ?_); rintro e w2 ⟨rfl, hb1⟩; obtain ⟨g0, g1, g2, g3, g4, g5, g6, g7⟩ := HREC.out.up hb1) | (at_builtin; refine (wpList_append_row _ rfl _ _ 23 rfl w.heap.size 21 ie ze 1 4 Tryz.underlying23 hie hze hsi hby hzc (by decide) _ 0 [] rfl (World.ownsRow_nil _ _ _ _) A' x.to.length c' (x.to.map (Value.int .i32)) rfl (by simp) ?ha (ints_one _ _) ?hb ?hc ?hd ?_); (case ha => exact HTO.out.up hb1); (case hb => exact HLEN.out.1); (case hc => exact HLEN.out.2); (case hd => exact hb1.size); intro v' w3 hown' hgrow hat))
    go_ret
    simp only [Nat.zero_add, List.nil_append] at hown'
    exact ⟨_, rfl, hown', up_trans hb1 (Below.grown (up_refl _) hgrow (Nat.le_refl _) (fun k hk => by cases hk))⟩
theorem Open_calls (A : Option Addr) (c : Nat) (T : List Rec) (d : Int) (w : World) (hT : Table w A T) (hR : ∀ x ∈ T, Right x) (hW : ∀ x ∈ T, x.Wf) (hl : T.length ≤ 4096) (hd1 : -2147483648 ≤ d) (hd2 : d ≤ 2147483647) :
 Calls Tryz.prog 83 #[.slice A T.length c, .int .i32 d] w (RetRow (openF T d) w) := by
 have hu96 := Tryz.underlying113
 have HT := Az.mk hT
 have HR := Az.mk hR
 cases hs : syl d with
 | true =>
   have ho : openF T d = [sylA d, sylB d] := by unfold openF; rw [if_pos hs]
   rw [ho]
   have hb2 := fun a b W => build_two a b W
   have hc := syl_iff hs
   have p1 : 44032 ≤ d := hc.1
   have p2 : d ≤ 55203 := hc.2
   clear ho hc hT hR hW HT HR
   go_enter Tryz.func83, Tryz.ntmps83
   go_wp2_with (first | (go_at_call 133; (with_reducible refine (syllable_calls d _ _ hs).mono ?_); rintro e w1 ⟨rfl, rfl⟩) | (go_at_call 134; (with_reducible refine (parts_calls d _ hs).mono ?_); rintro e w2 ⟨rfl, rfl⟩))
   go_ret
   exact ⟨_, rfl, own_two _ _ _, up_alloc (up_refl _) _⟩
 | false =>
   rcases find_cases T 3 d with ⟨h1, h2⟩ | ⟨i, x, hi, hx, h1, h2, h3⟩
   ·have ho : openF T d = [] := by unfold openF; rw [hs, if_neg (by decide), h2]
    rw [ho]
    have H1 := Az.mk h1
    clear hT hR hW ho h1 h2
    go_enter Tryz.func83, Tryz.ntmps83
    go_wp2_with (first | (go_at_call 133; (with_reducible refine (syllable_calls d _ _ hs).mono ?_); rintro e w1 ⟨rfl, rfl⟩) | (go_at_call 135; (with_reducible refine (Find_calls A c T 3 d (-1) _ HT.out HR.out hl (by decide) (by decide) hd1 hd2 H1.out).mono ?_); rintro e w2 ⟨rfl, hb1⟩))
    go_ret
    exact ⟨_, rfl, World.ownsRow_nil _ _ _ _, hb1⟩
   ·have ho : openF T d = x.to := by unfold openF; rw [hs, if_neg (by decide), h2]
    rw [ho]
    have H1 := Az.mk h1
    have hxw := hW x (List.mem_of_getElem? hx)
    have HLEN : Az (0 + x.to.length ≤ maxLen ∧ (0 + x.to.length) * 4 ≤ 140737488355328) := ⟨by have := hxw.len; unfold maxLen; omega⟩
    obtain ⟨ad, hA, A', c', hrec, hto⟩ := hT i x hx
    subst hA
    have HREC := Az.mk hrec
    have HTO := Az.mk hto
    have p1 : 0 ≤ (i : Int) := by omega
    have p2 : (i : Int) < (T.length : Int) := by omega
    have p3 : decide ((i : Int) < 0) = false := dFz (by omega)
    have p4 : decide (0 ≤ (i : Int)) = true := dTz (by omega)
    obtain ⟨ie, ze, hie, hze, hsi, hby, hzc⟩ := i32_info
    clear hT hR hW ho h1 h2 h3 hrec hto hx hxw
    go_enter Tryz.func83, Tryz.ntmps83
    go_wp2_with (first | (go_at_call 133; (with_reducible refine (syllable_calls d _ _ hs).mono ?_); rintro e w1 ⟨rfl, rfl⟩) | (go_at_call 135; (with_reducible refine (Find_calls _ c T 3 d i _ HT.out HR.out hl (by decide) (by decide) hd1 hd2 H1.out).mono ?_); rintro e w2 ⟨rfl, hb1⟩; obtain ⟨g0, g1, g2, g3, g4, g5, g6, g7⟩ := HREC.out.up hb1) | (at_builtin; refine (wpList_append_row _ rfl _ _ 23 rfl w.heap.size 21 ie ze 1 4 Tryz.underlying23 hie hze hsi hby hzc (by decide) _ 0 [] rfl (World.ownsRow_nil _ _ _ _) A' x.to.length c' (x.to.map (Value.int .i32)) rfl (by simp) ?ha (ints_one _ _) ?hb ?hc ?hd ?_); (case ha => exact HTO.out.up hb1); (case hb => exact HLEN.out.1); (case hc => exact HLEN.out.2); (case hd => exact hb1.size); intro v' w3 hown' hgrow hat))
    go_ret
    simp only [Nat.zero_add, List.nil_append] at hown'
    exact ⟨_, rfl, hown', up_trans hb1 (Below.grown (up_refl _) hgrow (Nat.le_refl _) (fun k hk => by cases hk))⟩
end Go.Proofs.YtnohcnneflogjaaGreat.M
namespace Go.Proofs.YtnohcnneflogjaaGreat.M
open Go.RowKit
theorem two_of {l : List Int} (h : l.length = 2) : ∃ a b, l = [a, b] := by
 match l, h with
 | [a, b], _ => exact ⟨a, b, rfl⟩
def RetPrim (b : Bool) (w : World) (e : Ending) (w' : World) : Prop := ∃ x y : Int, e = .returned (.tuple #[.int .i32 x, .int .i32 y, .bool b]) ∧ Up w w'
theorem RPrimary_calls (A : Option Addr) (c : Nat) (T : List Rec) (d : Int) (w : World) (hT : Table w A T) (hR : ∀ x ∈ T, Right x) (hW : ∀ x ∈ T, x.Wf) (hl : T.length ≤ 4096) (hd1 : -2147483648 ≤ d) (hd2 : d ≤ 2147483647) (b : Bool) (h : primB T d = b) :
 Calls Tryz.prog 181 #[.slice A T.length c, .int .i32 d] w (RetPrim b w) := by
 have hu96 := Tryz.underlying113
 have HT := Az.mk hT
 have HR := Az.mk hR
 have HW := Az.mk hW
 cases hs : syl d with
 | true =>
   have hb : b = true := by rw [← h, primB, hs]; rfl
   subst hb
   clear h hT hR hW
   have ho : openF T d = [sylA d, sylB d] := by unfold openF; rw [if_pos hs]
   have HO := Az.mk ho
   clear ho
   go_enter Tryz.func181, Tryz.ntmps181
   go_wp2_with (first | (go_at_call 153; (with_reducible refine (Syllable_calls d _ _ hs).mono ?_); rintro e w1 ⟨rfl, rfl⟩) | (go_at_call 138; (with_reducible refine (ROpen_calls A c T d _ HT.out HR.out HW.out hl hd1 hd2).mono ?_); rintro e w2 ⟨v, rfl, hown, hb2⟩; rw [HO.out] at hown; rcases own_cases hown with ⟨_, hn, _⟩ | ⟨g, cap, rfl, _, _, hc⟩; (simp at hn); have c0 := hc 0 _ rfl; have c1 := hc 1 _ rfl; clear hc hown))
   go_quiet (fail)
   go_wp2
   go_ret3
   exact ⟨_, _, rfl, up_drewN hb2 _⟩
 | false =>
   rcases find_cases T 3 d with ⟨h1, h2⟩ | ⟨i, x, hi, hx, h1, h2, h3⟩
   ·have hb : b = false := by rw [← h, primB, hs, h2]; rfl
    subst hb
    have H1 := Az.mk h1
    clear hT hR hW h h1 h2
    go_enter Tryz.func181, Tryz.ntmps181
    go_wp2_with (first | (go_at_call 153; (with_reducible refine (Syllable_calls d _ _ hs).mono ?_); rintro e w1 ⟨rfl, rfl⟩) | (go_at_call 143; (with_reducible refine (RFind_calls A c T 3 d (-1) _ HT.out HR.out hl (by decide) (by decide) hd1 hd2 H1.out).mono ?_); rintro e w2 ⟨rfl, hb1⟩))
    go_ret3
    exact ⟨_, _, rfl, hb1⟩
   ·have hb : b = (decide (x.kind = 7) && decide (x.to.length = 2)) := by rw [← h, primB, hs, h2]; rfl
    have H1 := Az.mk h1
    obtain ⟨ad, hA, A', c', hrec, hto⟩ := hT i x hx
    subst hA
    have HREC := Az.mk hrec
    have HTO := Az.mk hto
    have p1 : 0 ≤ (i : Int) := by omega
    have p2 : (i : Int) < (T.length : Int) := by omega
    have p3 : decide ((i : Int) < 0) = false := dFz (by omega)
    clear hT hR hW h h1 h2 h3 hrec hto hx
    by_cases k1 : x.kind = 7
    ·have e1 : (x.kind == 7) = true := beq_iff_eq.mpr k1
     have e2 : (x.kind != 7) = false := by rw [bne, e1]; rfl
     by_cases k2 : x.to.length = 2
     ·have e3 : ((x.to.length : Int) == 2) = true := beq_iff_eq.mpr (by omega)
      have e4 : ((x.to.length : Int) != 2) = false := by rw [bne, e3]; rfl
      rw [dTz k1, dTz k2] at hb
      subst hb
      obtain ⟨ad2, hA2, hc0⟩ := HTO.out 0 (.int .i32 (rd x.to 0)) (by obtain ⟨a, b, hab⟩ := two_of k2; rw [hab]; rfl)
      obtain ⟨ad3, hA3, hc1⟩ := HTO.out 1 (.int .i32 (rd x.to 1)) (by obtain ⟨a, b, hab⟩ := two_of k2; rw [hab]; rfl)
      rw [hA2] at hA3
      cases hA3
      subst hA2
      replace hc0 : w.cell? ad2 = some (.int .i32 (rd x.to 0)) := hc0
      replace hc1 : w.cell? ⟨ad2.block, ad2.off + 1, none⟩ = some (.int .i32 (rd x.to 1)) := hc1
      have q1 : (0 : Int) < (x.to.length : Int) := by omega
      have q2 : (1 : Int) < (x.to.length : Int) := by omega
      have q3 : 0 < x.to.length := by omega
      have q4 : 1 < x.to.length := by omega
      clear k1 k2
      go_enter Tryz.func181, Tryz.ntmps181
      go_wp2_with (first | (go_at_call 153; (with_reducible refine (Syllable_calls d _ _ hs).mono ?_); rintro e w1 ⟨rfl, rfl⟩) | (go_at_call 143; (with_reducible refine (RFind_calls _ c T 3 d i _ HT.out HR.out hl (by decide) (by decide) hd1 hd2 H1.out).mono ?_); rintro e w2 ⟨rfl, hb1⟩; obtain ⟨g0, g1, g2, g3, g4, g5, g6, g7⟩ := HREC.out.up hb1; replace hc0 := up_cell hb1 hc0; replace hc1 := up_cell hb1 hc1))
      go_quiet (fail)
      go_wp2
      go_ret3
      exact ⟨_, _, rfl, up_drewN hb1 _⟩
     ·have e3 : ((x.to.length : Int) == 2) = false := bqf (by omega)
      have e4 : ((x.to.length : Int) != 2) = true := bne_iff_ne.mpr (by omega)
      rw [dFz k2, Bool.and_false] at hb
      subst hb
      clear k1 k2
      go_enter Tryz.func181, Tryz.ntmps181
      go_wp2_with (first | (go_at_call 153; (with_reducible refine (Syllable_calls d _ _ hs).mono ?_); rintro e w1 ⟨rfl, rfl⟩) | (go_at_call 143; (with_reducible refine (RFind_calls _ c T 3 d i _ HT.out HR.out hl (by decide) (by decide) hd1 hd2 H1.out).mono ?_); rintro e w2 ⟨rfl, hb1⟩; obtain ⟨g0, g1, g2, g3, g4, g5, g6, g7⟩ := HREC.out.up hb1))
      go_ret3
      exact ⟨_, _, rfl, hb1⟩
    ·have e1 : (x.kind == 7) = false := bqf k1
     have e2 : (x.kind != 7) = true := bne_iff_ne.mpr k1
     rw [dFz k1, Bool.false_and] at hb
     subst hb
     clear k1
     go_enter Tryz.func181, Tryz.ntmps181
     go_wp2_with (first | (go_at_call 153; (with_reducible refine (Syllable_calls d _ _ hs).mono ?_); rintro e w1 ⟨rfl, rfl⟩) | (go_at_call 143; (with_reducible refine (RFind_calls _ c T 3 d i _ HT.out HR.out hl (by decide) (by decide) hd1 hd2 H1.out).mono ?_); rintro e w2 ⟨rfl, hb1⟩; obtain ⟨g0, g1, g2, g3, g4, g5, g6, g7⟩ := HREC.out.up hb1))
     go_ret3
     exact ⟨_, _, rfl, hb1⟩
theorem Primary_calls (A : Option Addr) (c : Nat) (T : List Rec) (d : Int) (w : World) (hT : Table w A T) (hR : ∀ x ∈ T, Right x) (hW : ∀ x ∈ T, x.Wf) (hl : T.length ≤ 4096) (hd1 : -2147483648 ≤ d) (hd2 : d ≤ 2147483647) (b : Bool) (h : primB T d = b) :
 Calls Tryz.prog 209 #[.slice A T.length c, .int .i32 d] w (RetPrim b w) := by
 have hu96 := Tryz.underlying113
 have HT := Az.mk hT
 have HR := Az.mk hR
 have HW := Az.mk hW
 cases hs : syl d with
 | true =>
   have hb : b = true := by rw [← h, primB, hs]; rfl
   subst hb
   clear h hT hR hW
   go_enter Tryz.func209, Tryz.ntmps209
   go_wp2_with (first | (go_at_call 133; (with_reducible refine (syllable_calls d _ _ hs).mono ?_); rintro e w1 ⟨rfl, rfl⟩) | (go_at_call 134; (with_reducible refine (parts_calls d _ hs).mono ?_); rintro e w2 ⟨rfl, rfl⟩))
   go_ret3
   exact ⟨_, _, rfl, up_refl _⟩
 | false =>
   rcases find_cases T 3 d with ⟨h1, h2⟩ | ⟨i, x, hi, hx, h1, h2, h3⟩
   ·have hb : b = false := by rw [← h, primB, hs, h2]; rfl
    subst hb
    have H1 := Az.mk h1
    clear hT hR hW h h1 h2
    go_enter Tryz.func209, Tryz.ntmps209
    go_wp2_with (first | (go_at_call 133; (with_reducible refine (syllable_calls d _ _ hs).mono ?_); rintro e w1 ⟨rfl, rfl⟩) | (go_at_call 135; (with_reducible refine (Find_calls A c T 3 d (-1) _ HT.out HR.out hl (by decide) (by decide) hd1 hd2 H1.out).mono ?_); rintro e w2 ⟨rfl, hb1⟩))
    go_ret3
    exact ⟨_, _, rfl, hb1⟩
   ·have hb : b = (decide (x.kind = 7) && decide (x.to.length = 2)) := by rw [← h, primB, hs, h2]; rfl
    have H1 := Az.mk h1
    obtain ⟨ad, hA, A', c', hrec, hto⟩ := hT i x hx
    subst hA
    have HREC := Az.mk hrec
    have HTO := Az.mk hto
    have p1 : 0 ≤ (i : Int) := by omega
    have p2 : (i : Int) < (T.length : Int) := by omega
    have p3 : decide ((i : Int) < 0) = false := dFz (by omega)
    clear hT hR hW h h1 h2 h3 hrec hto hx
    by_cases k1 : x.kind = 7
    ·have e1 : (x.kind == 7) = true := beq_iff_eq.mpr k1
     have e2 : (x.kind != 7) = false := by rw [bne, e1]; rfl
     by_cases k2 : x.to.length = 2
     ·have e3 : ((x.to.length : Int) == 2) = true := beq_iff_eq.mpr (by omega)
      have e4 : ((x.to.length : Int) != 2) = false := by rw [bne, e3]; rfl
      rw [dTz k1, dTz k2] at hb
      subst hb
      obtain ⟨ad2, hA2, hc0⟩ := HTO.out 0 (.int .i32 (rd x.to 0)) (by obtain ⟨a, b, hab⟩ := two_of k2; rw [hab]; rfl)
      obtain ⟨ad3, hA3, hc1⟩ := HTO.out 1 (.int .i32 (rd x.to 1)) (by obtain ⟨a, b, hab⟩ := two_of k2; rw [hab]; rfl)
      rw [hA2] at hA3
      cases hA3
      subst hA2
      replace hc0 : w.cell? ad2 = some (.int .i32 (rd x.to 0)) := hc0
      replace hc1 : w.cell? ⟨ad2.block, ad2.off + 1, none⟩ = some (.int .i32 (rd x.to 1)) := hc1
      have q1 : (0 : Int) < (x.to.length : Int) := by omega
      have q2 : (1 : Int) < (x.to.length : Int) := by omega
      have q3 : 0 < x.to.length := by omega
      have q4 : 1 < x.to.length := by omega
      clear k1 k2
      go_enter Tryz.func209, Tryz.ntmps209
      go_wp2_with (first | (go_at_call 133; (with_reducible refine (syllable_calls d _ _ hs).mono ?_); rintro e w1 ⟨rfl, rfl⟩) | (go_at_call 135; (with_reducible refine (Find_calls _ c T 3 d i _ HT.out HR.out hl (by decide) (by decide) hd1 hd2 H1.out).mono ?_); rintro e w2 ⟨rfl, hb1⟩; obtain ⟨g0, g1, g2, g3, g4, g5, g6, g7⟩ := HREC.out.up hb1; replace hc0 := up_cell hb1 hc0; replace hc1 := up_cell hb1 hc1))
      go_quiet (fail)
      go_wp2
      go_ret3
      exact ⟨_, _, rfl, up_drewN hb1 _⟩
     ·have e3 : ((x.to.length : Int) == 2) = false := bqf (by omega)
      have e4 : ((x.to.length : Int) != 2) = true := bne_iff_ne.mpr (by omega)
      rw [dFz k2, Bool.and_false] at hb
      subst hb
      clear k1 k2
      go_enter Tryz.func209, Tryz.ntmps209
      go_wp2_with (first | (go_at_call 133; (with_reducible refine (syllable_calls d _ _ hs).mono ?_); rintro e w1 ⟨rfl, rfl⟩) | (go_at_call 135; (with_reducible refine (Find_calls _ c T 3 d i _ HT.out HR.out hl (by decide) (by decide) hd1 hd2 H1.out).mono ?_); rintro e w2 ⟨rfl, hb1⟩; obtain ⟨g0, g1, g2, g3, g4, g5, g6, g7⟩ := HREC.out.up hb1))
      go_ret3
      exact ⟨_, _, rfl, hb1⟩
    ·have e1 : (x.kind == 7) = false := bqf k1
     have e2 : (x.kind != 7) = true := bne_iff_ne.mpr k1
     rw [dFz k1, Bool.false_and] at hb
     subst hb
     clear k1
     go_enter Tryz.func209, Tryz.ntmps209
     go_wp2_with (first | (go_at_call 133; (with_reducible refine (syllable_calls d _ _ hs).mono ?_); rintro e w1 ⟨rfl, rfl⟩) | (go_at_call 135; (with_reducible refine (Find_calls _ c T 3 d i _ HT.out HR.out hl (by decide) (by decide) hd1 hd2 H1.out).mono ?_); rintro e w2 ⟨rfl, hb1⟩; obtain ⟨g0, g1, g2, g3, g4, g5, g6, g7⟩ := HREC.out.up hb1))
     go_ret3
     exact ⟨_, _, rfl, hb1⟩
end Go.Proofs.YtnohcnneflogjaaGreat.M
