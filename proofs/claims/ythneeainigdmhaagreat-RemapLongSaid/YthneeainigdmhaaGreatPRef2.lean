/- The document's Table, walked: Mapping, Script. -/
import Derived.Test.YthneeainigdmhaaGreatK37
import Derived.Test.YthneeainigdmhaaGreatPPFull
set_option linter.unusedVariables false
set_option linter.unusedSimpArgs false
namespace Go.Proofs.YthneeainigdmhaaGreat.M
open Go.RowKit
set_option maxHeartbeats 8000000
set_option maxRecDepth 100000
theorem RScript_calls (A : Option Addr) (c : Nat) (T : List Rec) (d : Int) (w : World) (hT : Table w A T) (hR : ∀ x ∈ T, Right x) (hW : ∀ x ∈ T, x.Wf) (hl : T.length ≤ 4096) (hd1 : -2147483648 ≤ d) (hd2 : d ≤ 2147483647) (r : ByteArray) (hr : scriptF T d = r) :
    Calls Tryz.prog 40 #[.slice A T.length c, .int .i32 d] w fun e w' => e = .returned (.string r) ∧ Up w w' := by
  have hu96 := Tryz.underlying92
  have HT := Aside0.mk hT
  have HR := Aside0.mk hR
  unfold scriptF at hr
  rcases find_cases T 7 d with ⟨h1, h2⟩ | ⟨i, x, hi, hx, h1, h2, h3⟩
  · rw [h2] at hr
    have H1 := Aside0.mk h1
    have hr' : (⟨#[]⟩ : ByteArray) = r := hr
    subst hr'
    clear hT hR hW hr h1 h2
    go_enter Tryz.func40, Tryz.ntmps40
    go_wp2_with (first | (go_at_call 92; (with_reducible refine (RFind_calls A c T 7 d (-1) _ HT.out HR.out hl (by decide) (by decide) hd1 hd2 H1.out).mono ?_); rintro e w1 ⟨rfl, hb1⟩))
    go_ret
    exact ⟨rfl, hb1⟩
  · rw [h2] at hr
    have H1 := Aside0.mk h1
    have hr' : x.name = r := hr
    obtain ⟨ad, hA, A', c', hrec, hto⟩ := hT i x hx
    subst hA
    have HREC := Aside0.mk hrec
    have p1 : 0 ≤ (i : Int) := by omega
    have p2 : (i : Int) < (T.length : Int) := by omega
    have p3 : decide ((i : Int) < 0) = false := decide_eq_false (by omega)
    have p4 : decide (0 ≤ (i : Int)) = true := decide_eq_true (by omega)
    subst hr'
    clear hT hR hW hr h1 h2 h3 hrec hto hx
    go_enter Tryz.func40, Tryz.ntmps40
    go_wp2_with (first | (go_at_call 92; (with_reducible refine (RFind_calls _ c T 7 d i _ HT.out HR.out hl (by decide) (by decide) hd1 hd2 H1.out).mono ?_); rintro e w1 ⟨rfl, hb1⟩; obtain ⟨g0, g1, g2, g3, g4, g5, g6, g7⟩ := HREC.out.up hb1))
    go_ret
    exact ⟨rfl, hb1⟩
theorem RMapping_calls (A : Option Addr) (c : Nat) (T : List Rec) (d : Int) (w : World) (hT : Table w A T) (hR : ∀ x ∈ T, Right x) (hW : ∀ x ∈ T, x.Wf) (hl : T.length ≤ 4096) (hd1 : -2147483648 ≤ d) (hd2 : d ≤ 2147483647) (r : List Int) (hr : mapF T d = r) :
    Calls Tryz.prog 31 #[.slice A T.length c, .int .i32 d] w (RetRow r w) := by
  have hu96 := Tryz.underlying92
  have HT := Aside0.mk hT
  have HR := Aside0.mk hR
  unfold mapF at hr
  rcases find_cases T 1 d with ⟨h1, h2⟩ | ⟨i, x, hi, hx, h1, h2, h3⟩
  · rw [h2] at hr
    have H1 := Aside0.mk h1
    have hr' : ([] : List Int) = r := hr
    subst hr'
    clear hT hR hW hr h1 h2
    go_enter Tryz.func31, Tryz.ntmps31
    go_wp2_with (first | (go_at_call 92; (with_reducible refine (RFind_calls A c T 1 d (-1) _ HT.out HR.out hl (by decide) (by decide) hd1 hd2 H1.out).mono ?_); rintro e w1 ⟨rfl, hb1⟩))
    go_ret
    exact ⟨_, rfl, World.ownsRow_nil _ _ _ _, hb1⟩
  · rw [h2] at hr
    have H1 := Aside0.mk h1
    have hr : (if x.kind = 4 then [wrap32 (wrap32 (rd x.to 0 + d) - wrap32 x.lo)] else if pM x then x.to else []) = r := hr
    have hmem := List.mem_of_getElem? hx
    have hRx := hR x hmem
    have hWx := hW x hmem
    obtain ⟨ad, hA, A', c', hrec, hto⟩ := hT i x hx
    subst hA
    have HREC := Aside0.mk hrec
    have HTO := Aside0.mk hto
    have p1 : 0 ≤ (i : Int) := by omega
    have p2 : (i : Int) < (T.length : Int) := by omega
    have p3 : decide ((i : Int) < 0) = false := decide_eq_false (by omega)
    have p4 : decide (0 ≤ (i : Int)) = true := decide_eq_true (by omega)
    have hf : fam x.kind = 1 := (hit_span h3).1
    have hk : x.kind = 1 ∨ x.kind = 2 ∨ x.kind = 3 ∨ x.kind = 4 ∨ x.kind = 5 := by
      have h := hRx.kind
      generalize x.kind = q at h hf
      rcases fam_cases h.1 h.2 with rfl | rfl | rfl | rfl | rfl | rfl | rfl | rfl | rfl | rfl | rfl | rfl | rfl | rfl | rfl <;> first | omega | (exfalso; revert hf; decide)
    clear hT hR hW h1 h2 h3 hrec hto hx hf hmem
    by_cases hk12 : x.kind = 1 ∨ x.kind = 2
    · have hr' : ([] : List Int) = r := by
        rw [← hr, if_neg (by omega), if_neg (by unfold pM; rcases hk12 with h | h <;> (rw [h]; decide))]
      subst hr'
      have hk0 : ((x.kind == 1) = true) ∨ ((x.kind == 1) = false ∧ (x.kind == 2) = true) := by
        rcases hk12 with h | h
        · exact .inl (beq_iff_eq.mpr h)
        · exact .inr ⟨beq_eq_false_iff_ne.mpr (by omega), beq_iff_eq.mpr h⟩
      clear hk12 hk hr
      rcases hk0 with e1 | ⟨e1, e2⟩
      all_goals
        go_enter Tryz.func31, Tryz.ntmps31
        go_wp2_with (first | (go_at_call 92; (with_reducible refine (RFind_calls _ c T 1 d i _ HT.out HR.out hl (by decide) (by decide) hd1 hd2 H1.out).mono ?_); rintro e w1 ⟨rfl, hb1⟩; obtain ⟨g0, g1, g2, g3, g4, g5, g6, g7⟩ := HREC.out.up hb1))
        go_ret
        exact ⟨_, rfl, World.ownsRow_nil _ _ _ _, hb1⟩
    · have e1 : (x.kind == 1) = false := beq_eq_false_iff_ne.mpr (by omega)
      have e2 : (x.kind == 2) = false := beq_eq_false_iff_ne.mpr (by omega)
      by_cases hk4 : x.kind = 4
      · have e4 : (x.kind == 4) = true := beq_iff_eq.mpr hk4
        rw [if_pos hk4] at hr
        obtain ⟨_, _, hlen⟩ := hRx.shift hk4
        obtain ⟨t0, ht0⟩ : ∃ t0, x.to = [t0] := by
          match x.to, hlen with
          | [a], _ => exact ⟨a, rfl⟩
        rw [show rd x.to 0 = t0 by rw [ht0]; rfl] at hr
        obtain ⟨ai, hai, hc0⟩ := HTO.out 0 (.int .i32 t0) (by rw [ht0]; rfl)
        subst hai
        have HC0 : Aside0 (w.cell? ai = some (.int .i32 t0)) := ⟨hc0⟩
        have hb1 := build_one
        have HLEN := Aside0.mk hlen
        have HRES := Aside0.mk hr
        clear hlen hRx hWx ht0 hc0 hk4 hk hk12 hr
        go_enter Tryz.func31, Tryz.ntmps31
        go_wp2_with (first | (go_at_call 92; (with_reducible refine (RFind_calls _ c T 1 d i _ HT.out HR.out hl (by decide) (by decide) hd1 hd2 H1.out).mono ?_); rintro e w1 ⟨rfl, hb1⟩; obtain ⟨g0, g1, g2, g3, g4, g5, g6, g7⟩ := HREC.out.up hb1; have HUP1 := Aside0.mk hb1; clear hb1))
        rw [HLEN.out] at g4
        have hc1 := up_cell (up_drew HUP1.out) HC0.out
        have hs0 : w1.drew.cell? ⟨(ad.add (i * 8)).block, (ad.add (i * 8)).off + 4, none⟩ = some (.slice (some ai) 1 c') ∧ w1.drew.cell? ⟨(ad.add (i * 8)).block, (ad.add (i * 8)).off + 1, none⟩ = some (.int .i64 x.lo) ∧ w1.drew.cell? ai = some (.int .i32 t0) := ⟨g4, g1, hc1⟩
        have hs1 : ∀ o, (w1.drew.alloc o).cell? ⟨(ad.add (i * 8)).block, (ad.add (i * 8)).off + 4, none⟩ = some (.slice (some ai) 1 c') ∧ (w1.drew.alloc o).cell? ⟨(ad.add (i * 8)).block, (ad.add (i * 8)).off + 1, none⟩ = some (.int .i64 x.lo) ∧ (w1.drew.alloc o).cell? ai = some (.int .i32 t0) := fun o => ⟨up_cell (up_alloc (up_refl _) o) hs0.1, up_cell (up_alloc (up_refl _) o) hs0.2.1, up_cell (up_alloc (up_refl _) o) hs0.2.2⟩
        go_region_held3 (fun w' => w'.cell? ⟨(ad.add (i * 8)).block, (ad.add (i * 8)).off + 4, none⟩ = some (.slice (some ai) 1 c') ∧ w'.cell? ⟨(ad.add (i * 8)).block, (ad.add (i * 8)).off + 1, none⟩ = some (.int .i64 x.lo) ∧ w'.cell? ai = some (.int .i32 t0)) (first | exact hs0 | exact hs1 _) (first | fail)
        go_wp2
        go_ret
        have hb := (World.ownsRow_lit (e := 21) (size := 1) w1 #[.int .i32 (IntKind.i32.wrap (IntKind.i32.wrap (t0 + d) - IntKind.i32.wrap x.lo))] 1 (Nat.le_refl _) (by decide) rfl).drew
        have he2 : wrap32 (wrap32 (t0 + d) - wrap32 x.lo) = IntKind.i32.wrap (IntKind.i32.wrap (t0 + d) - IntKind.i32.wrap x.lo) := by
          simp only [wrap32, IntKind.wrap_i32]
        rw [← HRES.out, he2]
        exact ⟨_, rfl, own_mono hb (by have := HUP1.out.size; omega), up_drew (up_alloc HUP1.out _)⟩
      · have e4 : (x.kind == 4) = false := beq_eq_false_iff_ne.mpr hk4
        have hr' : x.to = r := by
          rw [if_neg hk4, if_pos (by
            have h35 : x.kind = 3 ∨ x.kind = 5 := by omega
            unfold pM
            rcases h35 with h | h <;> (rw [h]; decide))] at hr
          exact hr
        subst hr'
        have HLEN : Aside0 (0 + x.to.length ≤ maxLen ∧ (0 + x.to.length) * 4 ≤ 140737488355328) := ⟨by have := hWx.len; unfold maxLen; omega⟩
        obtain ⟨ie, ze, hie, hze, hsi, hby, hzc⟩ := i32_info
        clear hRx hWx hk4 hk hk12 hr
        go_enter Tryz.func31, Tryz.ntmps31
        go_wp2_with (first | (go_at_call 92; (with_reducible refine (RFind_calls _ c T 1 d i _ HT.out HR.out hl (by decide) (by decide) hd1 hd2 H1.out).mono ?_); rintro e w1 ⟨rfl, hb1⟩; obtain ⟨g0, g1, g2, g3, g4, g5, g6, g7⟩ := HREC.out.up hb1; have HUP1 := Aside0.mk hb1; have HTO1 := Aside0.mk (HTO.out.up hb1); clear hb1) | (at_builtin; refine (wpList_append_row _ rfl _ _ 23 rfl w.heap.size 21 ie ze 1 4 Tryz.underlying23 hie hze hsi hby hzc (by decide) _ 0 [] rfl (World.ownsRow_nil _ _ _ _) A' x.to.length c' (x.to.map (Value.int .i32)) rfl (by simp) ?ha (ints_one _ _) ?hb ?hc ?hd ?_); (case ha => exact HTO1.out); (case hb => exact HLEN.out.1); (case hc => exact HLEN.out.2); (case hd => exact HUP1.out.size); intro v' w3 hown' hgrow hat'))
        go_ret
        rw [Nat.zero_add, List.nil_append] at hown'
        exact ⟨_, rfl, hown', up_trans HUP1.out (up_nil hgrow rfl)⟩
end Go.Proofs.YthneeainigdmhaaGreat.M
