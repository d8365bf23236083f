/- What is asked of a compiled table, walked: what a trie tells. -/
import Derived.Test.YthneeainigdmhaaGreatK35
set_option linter.unusedVariables false
set_option linter.unusedSimpArgs false
namespace Go.Proofs.YthneeainigdmhaaGreat.M
open Go.RowKit
set_option maxHeartbeats 8000000
set_option maxRecDepth 100000

theorem findR_out {T : List Rec} {f c : Int} (h : c < 0 ∨ 1114111 < c) : findR T f c = none := by
  unfold findR
  rw [List.find?_eq_none]
  intro x _ hx
  unfold hitB speaksB at hx
  simp only [Bool.and_eq_true, decide_eq_true_eq] at hx
  omega
theorem numF_out {T : List Rec} {f : Int} {g : Rec → Int} {c : Int} (h : c < 0 ∨ 1114111 < c) : numF T f g c = 0 := by
  unfold numF
  rw [findR_out h]
theorem numF_range {T : List Rec} {f : Int} {g : Rec → Int} {c : Int} (h : ∀ x ∈ T, fam x.kind = f → 0 ≤ g x ∧ g x ≤ 65535) : 0 ≤ numF T f g c ∧ numF T f g c ≤ 65535 := by
  unfold numF
  cases hf : findR T f c with
  | none => show (0 : Int) ≤ 0 ∧ (0 : Int) ≤ 65535; decide
  | some x =>
    obtain ⟨h1, h2⟩ := findR_some hf
    refine h x h1 ?_
    unfold hitB at h2
    simp only [Bool.and_eq_true, decide_eq_true_eq] at h2
    exact h2.1
theorem right_n {x : Rec} (hR : Right x) (hk : fam x.kind = 2 ∨ fam x.kind = 4 ∨ fam x.kind = 5) : 0 ≤ x.n ∧ x.n ≤ 65535 := by
  have h := hR.kind
  have hf := hR.fits
  unfold fitsB at hf
  have hq : x.kind = 6 ∨ x.kind = 9 ∨ x.kind = 10 := by
    generalize x.kind = q at h hk
    rcases fam_cases h.1 h.2 with rfl | rfl | rfl | rfl | rfl | rfl | rfl | rfl | rfl | rfl | rfl | rfl | rfl | rfl | rfl <;> first | omega | (exfalso; revert hk; decide)
  rcases hq with hq | hq | hq <;> simp [hq] at hf <;> omega
theorem statF_range {T : List Rec} (c : Int) : 0 ≤ statF T c ∧ statF T c ≤ 65535 := by
  unfold statF
  cases findR T 1 c with
  | none => exact ⟨Int.le_refl _, by decide⟩
  | some x =>
    have := statN_le x.kind
    show 0 ≤ statN x.kind ∧ statN x.kind ≤ 65535
    omega
theorem statF_out {T : List Rec} {c : Int} (h : c < 0 ∨ 1114111 < c) : statF T c = 0 := by
  unfold statF
  rw [findR_out h]
theorem apart_val {L : List Rng} (hA : Apart L) (c : Int) : 0 ≤ valR L 0 c ∧ valR L 0 c ≤ 65535 := by
  unfold valR
  cases h : L.find? (fun r => r.has c) with
  | none => exact ⟨Int.le_refl _, by decide⟩
  | some r => exact hA.val r (List.mem_of_find?_eq_some h)
theorem apart_out {L : List Rng} (hA : Apart L) {c : Int} (h : c < 0 ∨ 1114111 < c) : valR L 0 c = 0 := by
  refine valR_none (fun r hr => ?_)
  cases hc : r.has c with
  | false => rfl
  | true =>
    rw [has_iff] at hc
    have := hA.low r hr
    omega
theorem Class_m (H : Nat) (w : World) (b : Nat) (F : Int → Int) (d : Int) (h : TrieFrom H w b F) (hF : d < 0 ∨ 1114111 < d → F d = 0) (hv : 0 ≤ F d ∧ F d ≤ 65535) (hd1 : -2147483648 ≤ d) (hd2 : d ≤ 2147483647) :
    Calls Tryz.prog 32 #[.agg #[.pointer (some ⟨b, 0, none⟩)], .int .i32 d] w fun e w' => e = .returned (.int .i64 (F d)) ∧ Up w w' := by
  have HG : Aside0 (∀ W, Up w W → Calls Tryz.prog 91 #[.pointer (some ⟨b, 0, none⟩), .int .i64 d] W fun e w' => e = .returned (.int .i64 (F d)) ∧ Up W w') := ⟨fun W hW => Get_calls H W b F d (h.up hW) hF hv⟩
  clear h hF hv
  go_enter Tryz.func32, Tryz.ntmps32
  go_wp2_with (first | (go_at_call 91; (with_reducible refine (HG.out _ (up_alloc (up_refl _) _)).mono ?_); rintro e w1 ⟨rfl, hup1⟩))
  go_ret
  exact ⟨rfl, up_trans (up_alloc (up_refl _) _) hup1⟩
theorem Bidi_m (H : Nat) (w : World) (b : Nat) (F : Int → Int) (d : Int) (h : TrieFrom H w b F) (hF : d < 0 ∨ 1114111 < d → F d = 0) (hv : 0 ≤ F d ∧ F d ≤ 65535) (hd1 : -2147483648 ≤ d) (hd2 : d ≤ 2147483647) :
    Calls Tryz.prog 34 #[.agg #[.pointer (some ⟨b, 0, none⟩)], .int .i32 d] w fun e w' => e = .returned (.int .i64 (F d)) ∧ Up w w' := by
  have HG : Aside0 (∀ W, Up w W → Calls Tryz.prog 91 #[.pointer (some ⟨b, 0, none⟩), .int .i64 d] W fun e w' => e = .returned (.int .i64 (F d)) ∧ Up W w') := ⟨fun W hW => Get_calls H W b F d (h.up hW) hF hv⟩
  clear h hF hv
  go_enter Tryz.func34, Tryz.ntmps34
  go_wp2_with (first | (go_at_call 91; (with_reducible refine (HG.out _ (up_alloc (up_refl _) _)).mono ?_); rintro e w1 ⟨rfl, hup1⟩))
  go_ret
  exact ⟨rfl, up_trans (up_alloc (up_refl _) _) hup1⟩
theorem Join_m (H : Nat) (w : World) (b : Nat) (F : Int → Int) (d : Int) (h : TrieFrom H w b F) (hF : d < 0 ∨ 1114111 < d → F d = 0) (hv : 0 ≤ F d ∧ F d ≤ 65535) (hd1 : -2147483648 ≤ d) (hd2 : d ≤ 2147483647) :
    Calls Tryz.prog 36 #[.agg #[.pointer (some ⟨b, 0, none⟩)], .int .i32 d] w fun e w' => e = .returned (.int .i64 (F d)) ∧ Up w w' := by
  have HG : Aside0 (∀ W, Up w W → Calls Tryz.prog 91 #[.pointer (some ⟨b, 0, none⟩), .int .i64 d] W fun e w' => e = .returned (.int .i64 (F d)) ∧ Up W w') := ⟨fun W hW => Get_calls H W b F d (h.up hW) hF hv⟩
  clear h hF hv
  go_enter Tryz.func36, Tryz.ntmps36
  go_wp2_with (first | (go_at_call 91; (with_reducible refine (HG.out _ (up_alloc (up_refl _) _)).mono ?_); rintro e w1 ⟨rfl, hup1⟩))
  go_ret
  exact ⟨rfl, up_trans (up_alloc (up_refl _) _) hup1⟩
theorem Mark_m (H : Nat) (w : World) (b : Nat) (F : Int → Int) (d : Int) (r : Bool) (h : TrieFrom H w b F) (hF : d < 0 ∨ 1114111 < d → F d = 0) (hv : 0 ≤ F d ∧ F d ≤ 65535) (hd1 : -2147483648 ≤ d) (hd2 : d ≤ 2147483647) (hr : (F d == 1) = r) :
    Calls Tryz.prog 37 #[.agg #[.pointer (some ⟨b, 0, none⟩)], .int .i32 d] w fun e w' => e = .returned (.bool r) ∧ Up w w' := by
  have HG : Aside0 (∀ W, Up w W → Calls Tryz.prog 91 #[.pointer (some ⟨b, 0, none⟩), .int .i64 d] W fun e w' => e = .returned (.int .i64 (F d)) ∧ Up W w') := ⟨fun W hW => Get_calls H W b F d (h.up hW) hF hv⟩
  clear h hF hv
  go_enter Tryz.func37, Tryz.ntmps37
  go_wp2_with (first | (go_at_call 91; (with_reducible refine (HG.out _ (up_alloc (up_refl _) _)).mono ?_); rintro e w1 ⟨rfl, hup1⟩))
  go_ret
  exact ⟨rfl, up_trans (up_alloc (up_refl _) _) hup1⟩
theorem Status_m (H : Nat) (w : World) (b : Nat) (p v : Value) (F : Int → Int) (d : Int) (h : TrieFrom H w b F) (hF : d < 0 ∨ 1114111 < d → F d = 0) (hv : 0 ≤ F d ∧ F d ≤ 65535) (hd1 : -2147483648 ≤ d) (hd2 : d ≤ 2147483647) (b2 : Nat) (A : Option Addr) (n c : Nat) (hp : p = .pointer (some ⟨b2, 0, none⟩)) (hvv : v = .slice A n c) :
    Calls Tryz.prog 28 #[.agg #[.pointer (some ⟨b, 0, none⟩), p, v], .int .i32 d] w fun e w' => e = .returned (.int .i64 (F d)) ∧ Up w w' := by
  subst hp
  subst hvv
  have HG : Aside0 (∀ W, Up w W → Calls Tryz.prog 91 #[.pointer (some ⟨b, 0, none⟩), .int .i64 d] W fun e w' => e = .returned (.int .i64 (F d)) ∧ Up W w') := ⟨fun W hW => Get_calls H W b F d (h.up hW) hF hv⟩
  clear h hF hv
  go_enter Tryz.func28, Tryz.ntmps28
  go_wp2_with (first | (go_at_call 91; (with_reducible refine (HG.out _ (up_alloc (up_refl _) _)).mono ?_); rintro e w1 ⟨rfl, hup1⟩))
  go_ret
  exact ⟨rfl, up_trans (up_alloc (up_refl _) _) hup1⟩
end Go.Proofs.YthneeainigdmhaaGreat.M

/-! What is asked of a compiled table, walked: mappings, scripts, weights. -/
set_option linter.unusedVariables false
set_option linter.unusedSimpArgs false
namespace Go.Proofs.YthneeainigdmhaaGreat.M
open Go.RowKit
set_option maxHeartbeats 8000000
set_option maxRecDepth 100000

/-- What a number is mapped to. -/
def mapF (T : List Rec) (d : Int) : List Int := match findR T 1 d with
  | some r => if r.kind = 4 then [wrap32 (wrap32 (rd r.to 0 + d) - wrap32 r.lo)] else if pM r then r.to else []
  | none => []
theorem Mapping_m (H : Nat) (w : World) (b1 b2 : Nat) (A : Option Addr) (n c : Nat) (T : List Rec) (d : Int) (h : StatAt H w b1 b2 A n c T) (hG : Good T) (hd1 : -2147483648 ≤ d) (hd2 : d ≤ 2147483647) :
    Calls Tryz.prog 27 #[.agg #[.pointer (some ⟨b1, 0, none⟩), .pointer (some ⟨b2, 0, none⟩), .slice A n c], .int .i32 d] w (RetRow (mapF T d) w) := by
  have hu96 := Tryz.underlying92
  have HG : Aside0 (∀ W, Up w W → Calls Tryz.prog 91 #[.pointer (some ⟨b2, 0, none⟩), .int .i64 d] W fun e w' => e = .returned (.int .i64 (whereF T d)) ∧ Up W w') := ⟨fun W hW => Get_calls H W b2 (whereF T) d (h.wher.up hW) (apart_out (rngsW_apart hG)) (apart_val (rngsW_apart hG) d)⟩
  by_cases hm : ∃ r, findR T 1 d = some r ∧ pM r = true
  · obtain ⟨r, hf, hp⟩ := hm
    obtain ⟨k, hk, hv⟩ := rngsW_some hG hf hp
    have hmem := (findR_some hf).1
    have hR := hG.right r hmem
    have hW := hG.wf r hmem
    obtain ⟨Lr, hn, hmap, hown, hto⟩ := h.recs
    have hkL : k < Lr.length := by
      have h1 := congrArg List.length hmap
      rw [List.length_map] at h1
      have := (List.getElem?_eq_some_iff.1 hk).1
      omega
    obtain ⟨q, hq⟩ : ∃ q, Lr[k]? = some q := ⟨_, List.getElem?_eq_getElem hkL⟩
    have hq1 : q.1 = r := by
      have h1 : (Lr.map (·.1))[k]? = some q.1 := by rw [List.getElem?_map, hq]; rfl
      rw [hmap, hk] at h1
      exact (Option.some.inj h1).symm
    obtain ⟨x, Ai, ci⟩ := q
    have hq1' : x = r := hq1
    subst hq1'
    have htx := hto _ (List.mem_of_getElem? hq)
    obtain ⟨ad, hA, hrec⟩ : ∃ ad, A = some ad ∧ RecAt w (ad.add (k * 8)) x Ai ci := by
      rcases own_cases hown with ⟨hv', h0, hx⟩ | ⟨g, cap, hv', hg, _, hcell⟩
      · omega
      · injection hv' with e1 e2 e3
        refine ⟨_, e1, ?_⟩
        rw [add_zero_none]
        exact row_recAt hcell hq
    subst hA
    subst hn
    have hwv : whereF T d = (k : Int) + 1 := hv
    have HG2 : Aside0 (∀ W, Up w W → Calls Tryz.prog 91 #[.pointer (some ⟨b2, 0, none⟩), .int .i64 d] W fun e w' => e = .returned (.int .i64 ((k : Int) + 1)) ∧ Up W w') := ⟨fun W hW => by rw [← hwv]; exact HG.out W hW⟩
    obtain ⟨v, hvv⟩ : ∃ v : Int, (k : Int) + 1 = v := ⟨_, rfl⟩
    rw [hvv] at HG2
    have e0 : (v == 0) = false := beq_eq_false_iff_ne.mpr (by omega)
    have hsub : wrap64 (v - 1) = (k : Int) := by
      have := hG.len
      have h2 := congrArg List.length hmap
      rw [List.length_map] at h2
      have h3 : (T.filter pM).length ≤ T.length := List.length_filter_le _ _
      unfold wrap64
      omega
    have f1 : 0 ≤ (k : Int) := by omega
    have f2 : (k : Int) < (Lr.length : Int) := by omega
    have HREC := Aside0.mk hrec
    have HTO := Aside0.mk htx.1
    by_cases hk4 : x.kind = 4
    · have ek : (x.kind == 4) = true := beq_iff_eq.mpr hk4
      have hmp : mapF T d = [wrap32 (wrap32 (rd x.to 0 + d) - wrap32 x.lo)] := by
        unfold mapF
        rw [hf]
        exact if_pos hk4
      rw [hmp]
      obtain ⟨_, _, hlen⟩ := hR.shift hk4
      obtain ⟨t0, ht0⟩ : ∃ t0, x.to = [t0] := by
        match x.to, hlen with
        | [a], _ => exact ⟨a, rfl⟩
      rw [show rd x.to 0 = t0 by rw [ht0]; rfl]
      obtain ⟨ai, hai, hc0⟩ := HTO.out 0 (.int .i32 t0) (by rw [ht0]; rfl)
      subst hai
      have HC0 : Aside0 (w.cell? ai = some (.int .i32 t0)) := ⟨hc0⟩
      have hb1 := build_one
      have HLEN := Aside0.mk hlen
      clear hlen hG hR hW hmap hown hto htx hq hk hkL hrec h HG hf hp hmem hv hwv hvv hmp ht0 hc0 hq1 hk4
      go_enter Tryz.func27, Tryz.ntmps27
      go_wp2_with (first | (go_at_call 91; (with_reducible refine (HG2.out _ (up_alloc (up_refl _) _)).mono ?_); rintro e w1 ⟨rfl, hup1⟩; have HUP1 := Aside0.mk (up_trans (up_alloc (up_refl w) _) hup1); have hbx1 := up_block hup1 (heap_alloc_new w (.cells #[.pointer (some ⟨b1, 0, none⟩), .pointer (some ⟨b2, 0, none⟩), .slice (some ad) Lr.length c] 37 (0, 0))); obtain ⟨o0, o1, o2, _, _, _⟩ := statO_cells hbx1; obtain ⟨g0, g1, g2, g3, g4, g5, g6, g7⟩ := HREC.out.up HUP1.out; have HRB := Aside0.mk (recBox_new w1 x (some ai) ci); obtain ⟨k0, k1, k2, k3, k4, k5, k6, k7⟩ := HRB.out; have HC1 : Aside0 ((w1.alloc (recO x (some ai) ci)).cell? ai = some (.int .i32 t0)) := ⟨up_cell (up_alloc HUP1.out _) HC0.out⟩; clear hup1 hbx1))
      rw [HLEN.out] at k4
      have hs0 : (w1.alloc (recO x (some ai) ci)).drew.cell? ⟨w1.heap.size, 4, none⟩ = some (.slice (some ai) 1 ci) ∧ (w1.alloc (recO x (some ai) ci)).drew.cell? ⟨w1.heap.size, 1, none⟩ = some (.int .i64 x.lo) ∧ (w1.alloc (recO x (some ai) ci)).drew.cell? ai = some (.int .i32 t0) := ⟨k4, k1, HC1.out⟩
      have hs1 : ∀ o, ((w1.alloc (recO x (some ai) ci)).drew.alloc o).cell? ⟨w1.heap.size, 4, none⟩ = some (.slice (some ai) 1 ci) ∧ ((w1.alloc (recO x (some ai) ci)).drew.alloc o).cell? ⟨w1.heap.size, 1, none⟩ = some (.int .i64 x.lo) ∧ ((w1.alloc (recO x (some ai) ci)).drew.alloc o).cell? ai = some (.int .i32 t0) := fun o => ⟨up_cell (up_alloc (up_refl _) o) hs0.1, up_cell (up_alloc (up_refl _) o) hs0.2.1, up_cell (up_alloc (up_refl _) o) hs0.2.2⟩
      go_region_held3 (fun w' => w'.cell? ⟨w1.heap.size, 4, none⟩ = some (.slice (some ai) 1 ci) ∧ w'.cell? ⟨w1.heap.size, 1, none⟩ = some (.int .i64 x.lo) ∧ w'.cell? ai = some (.int .i32 t0)) (first | exact hs0 | exact hs1 _) (first | fail)
      go_wp2
      go_ret
      have hb := (World.ownsRow_lit (e := 21) (size := 1) (w1.alloc (recO x (some ai) ci)) #[.int .i32 (IntKind.i32.wrap (IntKind.i32.wrap (t0 + d) - IntKind.i32.wrap x.lo))] 1 (Nat.le_refl _) (by decide) rfl).drew
      rw [show (w1.alloc (recO x (some ai) ci)).heap.size = w1.heap.size + 1 by simp] at hb
      have he2 : wrap32 (wrap32 (t0 + d) - wrap32 x.lo) = IntKind.i32.wrap (IntKind.i32.wrap (t0 + d) - IntKind.i32.wrap x.lo) := by
        simp only [wrap32, IntKind.wrap_i32]
      rw [he2]
      exact ⟨_, rfl, own_mono hb (by have := HUP1.out.size; omega), up_drew (up_alloc (up_alloc HUP1.out _) _)⟩
    · have ek : (x.kind == 4) = false := beq_eq_false_iff_ne.mpr hk4
      have hmp : mapF T d = x.to := by
        unfold mapF
        rw [hf]
        show (if x.kind = 4 then _ else if pM x then x.to else []) = _
        rw [if_neg hk4, if_pos hp]
      rw [hmp]
      have HLEN : Aside0 (0 + x.to.length ≤ maxLen ∧ (0 + x.to.length) * 4 ≤ 140737488355328) := ⟨by have := hW.len; unfold maxLen; omega⟩
      obtain ⟨ie, ze, hie, hze, hsi, hby, hzc⟩ := i32_info
      clear hG hR hW hmap hown hto htx hq hk hkL hrec h HG hf hp hmem hv hwv hvv hmp hq1 hk4
      go_enter Tryz.func27, Tryz.ntmps27
      go_wp2_with (first | (go_at_call 91; (with_reducible refine (HG2.out _ (up_alloc (up_refl _) _)).mono ?_); rintro e w1 ⟨rfl, hup1⟩; have HUP1 := Aside0.mk (up_trans (up_alloc (up_refl w) _) hup1); have hbx1 := up_block hup1 (heap_alloc_new w (.cells #[.pointer (some ⟨b1, 0, none⟩), .pointer (some ⟨b2, 0, none⟩), .slice (some ad) Lr.length c] 37 (0, 0))); obtain ⟨o0, o1, o2, _, _, _⟩ := statO_cells hbx1; obtain ⟨g0, g1, g2, g3, g4, g5, g6, g7⟩ := HREC.out.up HUP1.out; have HRB := Aside0.mk (recBox_new w1 x Ai ci); obtain ⟨k0, k1, k2, k3, k4, k5, k6, k7⟩ := HRB.out; have HTO1 := Aside0.mk ((HTO.out.up HUP1.out).up (up_alloc (up_refl w1) (recO x Ai ci))); clear hup1 hbx1) | (at_builtin; refine (wpList_append_row _ rfl _ _ 23 rfl w.heap.size 21 ie ze 1 4 Tryz.underlying23 hie hze hsi hby hzc (by decide) _ 0 [] rfl (World.ownsRow_nil _ _ _ _) Ai x.to.length ci (x.to.map (Value.int .i32)) rfl (by simp) ?ha (ints_one _ _) ?hb ?hc ?hd ?_); (case ha => exact HTO1.out); (case hb => exact HLEN.out.1); (case hc => exact HLEN.out.2); (case hd => exact (up_alloc HUP1.out _).size); intro v' w3 hown' hgrow hat))
      go_ret
      rw [Nat.zero_add, List.nil_append] at hown'
      exact ⟨_, rfl, hown', up_trans (up_alloc HUP1.out (recO x Ai ci)) (up_nil hgrow rfl)⟩
  · have hm' : ∀ r, findR T 1 d = some r → pM r = false := fun r hr => by
      cases hp : pM r with
      | false => rfl
      | true => exact absurd ⟨r, hr, hp⟩ hm
    have hw0 : whereF T d = 0 := rngsW_none hG hm'
    have hmp : mapF T d = [] := by
      unfold mapF
      cases hf : findR T 1 d with
      | none => rfl
      | some r =>
        have hp := hm' r hf
        have hk4 : r.kind ≠ 4 := fun e => by
          unfold pM at hp
          rw [e] at hp
          exact absurd hp (by decide)
        show (if r.kind = 4 then _ else if pM r then r.to else []) = _
        rw [if_neg hk4, hp]
        rfl
    rw [hmp]
    have HG2 : Aside0 (∀ W, Up w W → Calls Tryz.prog 91 #[.pointer (some ⟨b2, 0, none⟩), .int .i64 d] W fun e w' => e = .returned (.int .i64 0) ∧ Up W w') := ⟨fun W hW => by rw [← hw0]; exact HG.out W hW⟩
    clear hG h HG hm hm' hw0 hmp
    go_enter Tryz.func27, Tryz.ntmps27
    go_wp2_with (first | (go_at_call 91; (with_reducible refine (HG2.out _ (up_alloc (up_refl _) _)).mono ?_); rintro e w1 ⟨rfl, hup1⟩))
    go_ret
    exact ⟨_, rfl, World.ownsRow_nil _ _ _ _, up_trans (up_alloc (up_refl _) _) hup1⟩
end Go.Proofs.YthneeainigdmhaaGreat.M

/-! What is asked of a compiled table, walked: scripts, weights, forms. -/
set_option linter.unusedVariables false
set_option linter.unusedSimpArgs false
namespace Go.Proofs.YthneeainigdmhaaGreat.M
open Go.RowKit
set_option maxHeartbeats 8000000
set_option maxRecDepth 100000

/-! ### small predicates -/
theorem uL_calls (c : Int) (b : Bool) (w : World) (h : jl c = b) : Calls Tryz.prog 94 #[.int .i32 c] w fun e w' => e = .returned (.bool b) ∧ w = w' := by
  have h' : (decide (4352 ≤ c) && decide (c < 4371)) = b := by rw [← h, jl, Bool.eq_iff_iff]; simp; omega
  subst h'; clear h
  cases b1 : decide (4352 ≤ c) <;> cases b2 : decide (c < 4371) <;> (go_enter Tryz.func94, Tryz.ntmps94; go_wp2; go_ret; exact ⟨rfl, rfl⟩)
theorem uV_calls (c : Int) (b : Bool) (w : World) (h : jv c = b) : Calls Tryz.prog 95 #[.int .i32 c] w fun e w' => e = .returned (.bool b) ∧ w = w' := by
  have h' : (decide (4449 ≤ c) && decide (c < 4470)) = b := by rw [← h, jv, Bool.eq_iff_iff]; simp; omega
  subst h'; clear h
  cases b1 : decide (4449 ≤ c) <;> cases b2 : decide (c < 4470) <;> (go_enter Tryz.func95, Tryz.ntmps95; go_wp2; go_ret; exact ⟨rfl, rfl⟩)
theorem uT_calls (c : Int) (b : Bool) (w : World) (h : jt c = b) : Calls Tryz.prog 97 #[.int .i32 c] w fun e w' => e = .returned (.bool b) ∧ w = w' := by
  have h' : (decide (4519 < c) && decide (c < 4547)) = b := by rw [← h, jt, Bool.eq_iff_iff]; simp; omega
  subst h'; clear h
  cases b1 : decide (4519 < c) <;> cases b2 : decide (c < 4547) <;> (go_enter Tryz.func97, Tryz.ntmps97; go_wp2; go_ret; exact ⟨rfl, rfl⟩)
theorem usyl_calls (c : Int) (b : Bool) (w : World) (h : syl c = b) : Calls Tryz.prog 96 #[.int .i32 c] w fun e w' => e = .returned (.bool b) ∧ w = w' := by
  subst h; unfold syl
  cases b1 : decide (44032 ≤ c) <;> cases b2 : decide (c ≤ 55203) <;> (go_enter Tryz.func96, Tryz.ntmps96; go_wp2; go_ret; exact ⟨rfl, rfl⟩)
theorem zero_i32 (w : World) : (zeroValue 21).run Tryz.prog w = .ok (.int .i32 0) w := by kernel_rfl
/-! ### compositions -/
/-- What two compose to. -/
def compF (T : List Rec) (a b : Int) : Int × Bool :=
  if jl a && jv b then (44032 + ((a - 4352) * 21 + b - 4449) * 28, true)
  else if (syl a && decide ((a - 44032) % 28 = 0)) && jt b then (a + b - 4519, true)
  else match T.find? (pairAt a b) with | some x => (x.lo, true) | none => (0, false)
theorem formsO_new (w : World) (bo bf bl bc bs : Nat) : (w.alloc (formsO bo bf bl bc bs)).heap[w.heap.size]? = some (formsO bo bf bl bc bs) := heap_alloc_new w _
theorem Compose_m (H : Nat) (w : World) (bo bf bl bc bs m : Nat) (T : List Rec) (a b : Int) (h : FormsP H w bo bf bl bc bs m T T) (ha1 : -2147483648 ≤ a) (ha2 : a ≤ 2147483647) (hb1 : -2147483648 ≤ b) (hb2 : b ≤ 2147483647) :
    Calls Tryz.prog 41 #[.agg #[.map (some bo), .map (some bf), .map (some bl), .map (some bc), .map (some bs)], .int .i32 a, .int .i32 b] w fun e w' => e = .returned (.tuple #[.int .i32 (compF T a b).1, .bool (compF T a b).2]) ∧ Up w w' := by
  have HC : Aside0 (ValMap 112 pairK H (w.alloc (formsO bo bf bl bc bs)) bc m (compG T)) := ⟨h.comp.up (up_alloc (up_refl _) _)⟩
  have HK : Aside0 (KeyOk Tryz.prog 112 (pairK (a, b))) := ⟨key_upair (i32_wf ha1 ha2) (i32_wf hb1 hb2)⟩
  obtain ⟨k0, k1, k2, k3, k4⟩ := formsO_cells (formsO_new w bo bf bl bc bs)
  have HJ : ∀ x y, jl x = true → jv y = true → 4352 ≤ x ∧ x ≤ 4370 ∧ 4449 ≤ y ∧ y ≤ 4469 := fun x y h1 h2 => by simp [jl, jv] at h1 h2; omega
  by_cases hi : jl a = true ∧ jv b = true
  · obtain ⟨h1, h2⟩ := hi
    have hc : compF T a b = (44032 + ((a - 4352) * 21 + b - 4449) * 28, true) := by unfold compF; rw [h1, h2]; rfl
    rw [hc]
    obtain ⟨p1, p2, p3, p4⟩ := HJ a b h1 h2
    have H1 := Aside0.mk h1
    have H2 := Aside0.mk h2
    clear h hc h1 h2 ha1 ha2 hb1 hb2 HJ
    go_enter Tryz.func41, Tryz.ntmps41
    go_wp2_with (first | (go_at_call 94; (with_reducible refine (uL_calls a _ _ H1.out).mono ?_); rintro e w1 ⟨rfl, rfl⟩) | (go_at_call 95; (with_reducible refine (uV_calls b _ _ H2.out).mono ?_); rintro e w1 ⟨rfl, rfl⟩) | (go_at_call 96; (with_reducible refine (usyl_calls a _ _ H3.out).mono ?_); rintro e w1 ⟨rfl, rfl⟩) | (go_at_call 97; (with_reducible refine (uT_calls b _ _ H4.out).mono ?_); rintro e w1 ⟨rfl, rfl⟩))
    go_ret2
    exact ⟨rfl, up_alloc (up_refl _) _⟩
  have hI : (jl a && jv b) = false := by
    cases h1 : jl a <;> cases h2 : jv b <;> simp_all
  by_cases hii : syl a = true ∧ (a - 44032) % 28 = 0 ∧ jt b = true
  · obtain ⟨h3, hr, h4⟩ := hii
    have hc : compF T a b = (a + b - 4519, true) := by
      unfold compF
      rw [if_neg (by rw [hI]; decide), h3, h4, decide_eq_true hr]
      rfl
    rw [hc]
    have h1 : jl a = false := by simp [syl, jl] at *; omega
    have hs := syl_iff h3
    have p1 : 44032 ≤ a := hs.1
    have p2 : a ≤ 55203 := hs.2
    have hb : 4520 ≤ b ∧ b ≤ 4546 := by simpa [jt] using h4
    obtain ⟨p3, p4⟩ := hb
    have er : ((a - 44032) % 28 == 0) = true := beq_iff_eq.mpr hr
    have H1 := Aside0.mk h1
    have H3 := Aside0.mk h3
    have H4 := Aside0.mk h4
    clear h hc h1 h3 h4 hr hs ha1 ha2 hb1 hb2 HJ hI hi
    go_enter Tryz.func41, Tryz.ntmps41
    go_wp2_with (first | (go_at_call 94; (with_reducible refine (uL_calls a _ _ H1.out).mono ?_); rintro e w1 ⟨rfl, rfl⟩) | (go_at_call 95; (with_reducible refine (uV_calls b _ _ H2.out).mono ?_); rintro e w1 ⟨rfl, rfl⟩) | (go_at_call 96; (with_reducible refine (usyl_calls a _ _ H3.out).mono ?_); rintro e w1 ⟨rfl, rfl⟩) | (go_at_call 97; (with_reducible refine (uT_calls b _ _ H4.out).mono ?_); rintro e w1 ⟨rfl, rfl⟩))
    go_ret2
    exact ⟨rfl, up_alloc (up_refl _) _⟩
  have hII : ((syl a && decide ((a - 44032) % 28 = 0)) && jt b) = false := by
    cases h3 : syl a <;> cases h4 : jt b <;> by_cases hr : (a - 44032) % 28 = 0 <;> simp_all
  obtain ⟨v, ok, hgd, his, hval⟩ : ∃ (v : Int) (ok : Bool), (compG T (a, b)).getD (.int .i32 0) = .int .i32 v ∧ (compG T (a, b)).isSome = ok ∧ compF T a b = (v, ok) := by
    unfold compF compG
    rw [if_neg (by rw [hI]; decide), if_neg (by rw [hII]; decide)]
    cases T.find? (pairAt a b) with
    | none => exact ⟨0, false, rfl, rfl, rfl⟩
    | some x => exact ⟨x.lo, true, rfl, rfl, rfl⟩
  rw [hval]
  have HGD := Aside0.mk hgd
  have HIS := Aside0.mk his
  have HI := Aside0.mk hI
  have HII := Aside0.mk hII
  have hfirst : (jl a = true ∧ jv b = false) ∨ jl a = false := by
    cases h1 : jl a <;> cases h2 : jv b <;> simp_all
  have hsec : syl a = false ∨ (syl a = true ∧ ((a - 44032) % 28 == 0) = false) ∨ (syl a = true ∧ ((a - 44032) % 28 == 0) = true ∧ jt b = false) := by
    cases h3 : syl a <;> cases h4 : jt b <;> by_cases hr : (a - 44032) % 28 = 0 <;> simp_all
  clear hgd his hval hI hII hi hii HJ h ha1 ha2 hb1 hb2
  rcases hsec with h3 | ⟨h3, er⟩ | ⟨h3, er, h4⟩
  · have H3 := Aside0.mk h3
    clear h3
    rcases hfirst with ⟨h1, h2⟩ | h1
    · have H1 := Aside0.mk h1
      have H2 := Aside0.mk h2
      clear h1 h2
      go_enter Tryz.func41, Tryz.ntmps41
      go_wp2_with (first | (go_at_call 94; (with_reducible refine (uL_calls a _ _ H1.out).mono ?_); rintro e w1 ⟨rfl, rfl⟩) | (go_at_call 95; (with_reducible refine (uV_calls b _ _ H2.out).mono ?_); rintro e w1 ⟨rfl, rfl⟩) | (go_at_call 96; (with_reducible refine (usyl_calls a _ _ H3.out).mono ?_); rintro e w1 ⟨rfl, rfl⟩) | (go_at_call 97; (with_reducible refine (uT_calls b _ _ H4.out).mono ?_); rintro e w1 ⟨rfl, rfl⟩) | (at_lookup; refine wpList_lookVal _ rfl _ _ 44 true rfl 112 21 keyed_upair Tryz.underlying44 (zero_i32 _) H bc m (compG T) rfl HC.out (a, b) HK.out rfl (.tuple #[.int .i32 v, .bool ok]) (by rw [HGD.out, HIS.out]; rfl) ?_))
      go_ret2
      exact ⟨rfl, up_alloc (up_refl _) _⟩
    · have H1 := Aside0.mk h1
      clear h1
      go_enter Tryz.func41, Tryz.ntmps41
      go_wp2_with (first | (go_at_call 94; (with_reducible refine (uL_calls a _ _ H1.out).mono ?_); rintro e w1 ⟨rfl, rfl⟩) | (go_at_call 95; (with_reducible refine (uV_calls b _ _ H2.out).mono ?_); rintro e w1 ⟨rfl, rfl⟩) | (go_at_call 96; (with_reducible refine (usyl_calls a _ _ H3.out).mono ?_); rintro e w1 ⟨rfl, rfl⟩) | (go_at_call 97; (with_reducible refine (uT_calls b _ _ H4.out).mono ?_); rintro e w1 ⟨rfl, rfl⟩) | (at_lookup; refine wpList_lookVal _ rfl _ _ 44 true rfl 112 21 keyed_upair Tryz.underlying44 (zero_i32 _) H bc m (compG T) rfl HC.out (a, b) HK.out rfl (.tuple #[.int .i32 v, .bool ok]) (by rw [HGD.out, HIS.out]; rfl) ?_))
      go_ret2
      exact ⟨rfl, up_alloc (up_refl _) _⟩
  · have H3 := Aside0.mk h3
    have hs := syl_iff h3
    have p1 : 44032 ≤ a := hs.1
    have p2 : a ≤ 55203 := hs.2
    clear h3 hs
    rcases hfirst with ⟨h1, h2⟩ | h1
    · have H1 := Aside0.mk h1
      have H2 := Aside0.mk h2
      clear h1 h2
      go_enter Tryz.func41, Tryz.ntmps41
      go_wp2_with (first | (go_at_call 94; (with_reducible refine (uL_calls a _ _ H1.out).mono ?_); rintro e w1 ⟨rfl, rfl⟩) | (go_at_call 95; (with_reducible refine (uV_calls b _ _ H2.out).mono ?_); rintro e w1 ⟨rfl, rfl⟩) | (go_at_call 96; (with_reducible refine (usyl_calls a _ _ H3.out).mono ?_); rintro e w1 ⟨rfl, rfl⟩) | (go_at_call 97; (with_reducible refine (uT_calls b _ _ H4.out).mono ?_); rintro e w1 ⟨rfl, rfl⟩) | (at_lookup; refine wpList_lookVal _ rfl _ _ 44 true rfl 112 21 keyed_upair Tryz.underlying44 (zero_i32 _) H bc m (compG T) rfl HC.out (a, b) HK.out rfl (.tuple #[.int .i32 v, .bool ok]) (by rw [HGD.out, HIS.out]; rfl) ?_))
      go_ret2
      exact ⟨rfl, up_alloc (up_refl _) _⟩
    · have H1 := Aside0.mk h1
      clear h1
      go_enter Tryz.func41, Tryz.ntmps41
      go_wp2_with (first | (go_at_call 94; (with_reducible refine (uL_calls a _ _ H1.out).mono ?_); rintro e w1 ⟨rfl, rfl⟩) | (go_at_call 95; (with_reducible refine (uV_calls b _ _ H2.out).mono ?_); rintro e w1 ⟨rfl, rfl⟩) | (go_at_call 96; (with_reducible refine (usyl_calls a _ _ H3.out).mono ?_); rintro e w1 ⟨rfl, rfl⟩) | (go_at_call 97; (with_reducible refine (uT_calls b _ _ H4.out).mono ?_); rintro e w1 ⟨rfl, rfl⟩) | (at_lookup; refine wpList_lookVal _ rfl _ _ 44 true rfl 112 21 keyed_upair Tryz.underlying44 (zero_i32 _) H bc m (compG T) rfl HC.out (a, b) HK.out rfl (.tuple #[.int .i32 v, .bool ok]) (by rw [HGD.out, HIS.out]; rfl) ?_))
      go_ret2
      exact ⟨rfl, up_alloc (up_refl _) _⟩
  · have H3 := Aside0.mk h3
    have H4 := Aside0.mk h4
    have hs := syl_iff h3
    have p1 : 44032 ≤ a := hs.1
    have p2 : a ≤ 55203 := hs.2
    clear h3 hs h4
    rcases hfirst with ⟨h1, h2⟩ | h1
    · have H1 := Aside0.mk h1
      have H2 := Aside0.mk h2
      clear h1 h2
      go_enter Tryz.func41, Tryz.ntmps41
      go_wp2_with (first | (go_at_call 94; (with_reducible refine (uL_calls a _ _ H1.out).mono ?_); rintro e w1 ⟨rfl, rfl⟩) | (go_at_call 95; (with_reducible refine (uV_calls b _ _ H2.out).mono ?_); rintro e w1 ⟨rfl, rfl⟩) | (go_at_call 96; (with_reducible refine (usyl_calls a _ _ H3.out).mono ?_); rintro e w1 ⟨rfl, rfl⟩) | (go_at_call 97; (with_reducible refine (uT_calls b _ _ H4.out).mono ?_); rintro e w1 ⟨rfl, rfl⟩) | (at_lookup; refine wpList_lookVal _ rfl _ _ 44 true rfl 112 21 keyed_upair Tryz.underlying44 (zero_i32 _) H bc m (compG T) rfl HC.out (a, b) HK.out rfl (.tuple #[.int .i32 v, .bool ok]) (by rw [HGD.out, HIS.out]; rfl) ?_))
      go_ret2
      exact ⟨rfl, up_alloc (up_refl _) _⟩
    · have H1 := Aside0.mk h1
      clear h1
      go_enter Tryz.func41, Tryz.ntmps41
      go_wp2_with (first | (go_at_call 94; (with_reducible refine (uL_calls a _ _ H1.out).mono ?_); rintro e w1 ⟨rfl, rfl⟩) | (go_at_call 95; (with_reducible refine (uV_calls b _ _ H2.out).mono ?_); rintro e w1 ⟨rfl, rfl⟩) | (go_at_call 96; (with_reducible refine (usyl_calls a _ _ H3.out).mono ?_); rintro e w1 ⟨rfl, rfl⟩) | (go_at_call 97; (with_reducible refine (uT_calls b _ _ H4.out).mono ?_); rintro e w1 ⟨rfl, rfl⟩) | (at_lookup; refine wpList_lookVal _ rfl _ _ 44 true rfl 112 21 keyed_upair Tryz.underlying44 (zero_i32 _) H bc m (compG T) rfl HC.out (a, b) HK.out rfl (.tuple #[.int .i32 v, .bool ok]) (by rw [HGD.out, HIS.out]; rfl) ?_))
      go_ret2
      exact ⟨rfl, up_alloc (up_refl _) _⟩
/-! ### weights -/
theorem rngsOf_get (f : Nat → Int) : ∀ (P : List Rec) (j k : Nat), (rngsOf f j P)[k]? = (P[k]?).map (fun x => ⟨x.lo, x.hi, f (j + k)⟩)
  | [], j, k => by simp [rngsOf]
  | y :: P, j, 0 => rfl
  | y :: P, j, k + 1 => by
    show (rngsOf f (j + 1) P)[k]? = (P[k]?).map _
    rw [rngsOf_get f P (j + 1) k, show j + 1 + k = j + (k + 1) by omega]
theorem cost_cases {T : List Rec} (hG : Good T) {L : List Nat} (hL : L.length = (ofKind T 14).length) (d : Int) : (costF T d = 0 ∧ findR T 9 d = none) ∨ ∃ (k : Nat) (x : Rec), costF T d = (k : Int) + 1 ∧ k < L.length ∧ findR T 9 d = some x ∧ (ofKind T 14)[k]? = some x := by
  have hone := fam_one hG (k := 14) (fk := 9) (.inr (.inr (.inr (.inr (.inr (.inr ⟨rfl, rfl⟩))))))
  have hkind : ∀ x ∈ ofKind T 14, x ∈ T ∧ x.kind = 14 := fun x hx => ⟨(List.mem_filter.1 hx).1, by simpa [ofKind] using (List.mem_filter.1 hx).2⟩
  have hhas : ∀ x ∈ ofKind T 14, ∀ v, ((⟨x.lo, x.hi, v⟩ : Rng).has d = true ↔ hitB 9 d x = true) := fun x hx v => by
    obtain ⟨h1, h2⟩ := hkind x hx
    have hl := (hG.right x h1).low
    rw [has_iff]
    unfold hitB speaksB
    rw [decide_eq_true ((hone x h1).2 h2), decide_eq_true (show x.kind ≠ 4 by rw [h2]; decide)]
    simp
    omega
  unfold costF valR
  cases hf : (rngsOf costV 0 (ofKind T 14)).find? (fun r => r.has d) with
  | none =>
    left
    refine ⟨rfl, ?_⟩
    cases hr : findR T 9 d with
    | none => rfl
    | some x =>
      obtain ⟨h1, h2⟩ := findR_some hr
      have hk : x.kind = 14 := (hone x h1).1 (by unfold hitB at h2; simp only [Bool.and_eq_true, decide_eq_true_eq] at h2; exact h2.1)
      have hx : x ∈ ofKind T 14 := by unfold ofKind; rw [List.mem_filter]; exact ⟨h1, by simpa using hk⟩
      obtain ⟨k, hk'⟩ := List.mem_iff_getElem?.1 hx
      have h3 := rngsOf_get costV (ofKind T 14) 0 k
      rw [hk'] at h3
      rw [List.find?_eq_none] at hf
      exact absurd ((hhas x hx _).2 h2) (hf _ (List.mem_of_getElem? h3))
  | some r =>
    right
    have h1 := List.mem_of_find?_eq_some hf
    have h2 : r.has d = true := List.find?_some (p := fun r : Rng => r.has d) hf
    obtain ⟨k, hk⟩ := List.mem_iff_getElem?.1 h1
    rw [rngsOf_get] at hk
    obtain ⟨x, hx, hxr⟩ := Option.map_eq_some_iff.1 hk
    subst hxr
    have hxm := List.mem_of_getElem? hx
    have hkl := (List.getElem?_eq_some_iff.1 hx).1
    obtain ⟨i, hi⟩ := List.mem_iff_getElem?.1 (hkind x hxm).1
    refine ⟨k, x, by simp [costV], by omega, hG.find_at hi ((hhas x hxm _).1 h2) (by decide), hx⟩
theorem Weight_m (H : Nat) (w : World) (b bm : Nat) (A : Option Addr) (n c : Nat) (T : List Rec) (d : Int) (h : CostAt H w b bm A n c T) (hG : Good T) (hd1 : -2147483648 ≤ d) (hd2 : d ≤ 2147483647) :
    Calls Tryz.prog 60 #[.agg #[.pointer (some ⟨b, 0, none⟩), .slice A n c, .map (some bm)], .int .i32 d] w fun e w' => ∃ r, e = .returned (.float .f64 r) ∧ Up w w' ∧ ((findR T 9 d = none → r = 0) ∧ ∀ x, findR T 9 d = some x → NarrowOk x.weight r) := by
  have hap : Apart (rngsOf costV 0 (ofKind T 14)) := apart_kind hG 14 (by decide) (by decide) _ (fun j hj => by have := hG.len; have h2 : (ofKind T 14).length ≤ T.length := List.length_filter_le _ _; unfold costV; omega)
  have HG : Aside0 (∀ W, Up w W → Calls Tryz.prog 91 #[.pointer (some ⟨b, 0, none⟩), .int .i64 d] W fun e w' => e = .returned (.int .i64 (costF T d)) ∧ Up W w') := ⟨fun W hW => Get_calls H W b (costF T) d (h.trie.up hW) (apart_out hap) (apart_val hap d)⟩
  obtain ⟨L, hn, hL, hown⟩ := h.row
  have hcase : (costF T d = 0 ∧ findR T 9 d = none) ∨ ∃ (k : Nat) (x : Rec), costF T d = (k : Int) + 1 ∧ k < L.length ∧ findR T 9 d = some x ∧ (ofKind T 14)[k]? = some x := cost_cases hG hL.1 d
  rcases hcase with ⟨h0, hf⟩ | ⟨k, x, hv, hk, hf, hx⟩
  · have HG2 : Aside0 (∀ W, Up w W → Calls Tryz.prog 91 #[.pointer (some ⟨b, 0, none⟩), .int .i64 d] W fun e w' => e = .returned (.int .i64 0) ∧ Up W w') := ⟨fun W hW => by rw [← h0]; exact HG.out W hW⟩
    have HF := Aside0.mk hf
    clear h hG hap HG hL hown h0 hf
    go_enter Tryz.func60, Tryz.ntmps60
    go_wp2_with (first | (go_at_call 91; (with_reducible refine (HG2.out _ (up_alloc (up_refl _) _)).mono ?_); rintro e w1 ⟨rfl, hup1⟩))
    go_ret
    exact ⟨0, rfl, up_trans (up_alloc (up_refl _) _) hup1, fun _ => rfl, fun x hx => by rw [HF.out] at hx; cases hx⟩
  · obtain ⟨r, hr⟩ : ∃ r, L[k]? = some r := ⟨_, List.getElem?_eq_getElem hk⟩
    have HOK : Aside0 (NarrowOk x.weight r) := ⟨hL.2 k x r hx hr⟩
    obtain ⟨hcl, _⟩ := own_cells hown
    obtain ⟨ad, hA, hc⟩ := hcl k (.float .f64 r) (by unfold flts; rw [List.getElem?_map, hr]; rfl)
    subst hA
    obtain ⟨v, hvv⟩ : ∃ v : Int, (k : Int) + 1 = v := ⟨_, rfl⟩
    have HG2 : Aside0 (∀ W, Up w W → Calls Tryz.prog 91 #[.pointer (some ⟨b, 0, none⟩), .int .i64 d] W fun e w' => e = .returned (.int .i64 v) ∧ Up W w') := ⟨fun W hW => by rw [← hvv, ← hv]; exact HG.out W hW⟩
    have hlen := hL.1
    have e0 : decide (0 < v) = true := decide_eq_true (by omega)
    have hsub : wrap64 (v - 1) = (k : Int) := by
      have := hG.len
      have h3 : (ofKind T 14).length ≤ T.length := List.length_filter_le _ _
      unfold wrap64
      omega
    have f1 : 0 ≤ (k : Int) := by omega
    have f2 : (k : Int) < (L.length : Int) := by omega
    have HC := Aside0.mk hc
    have HF := Aside0.mk hf
    subst hn
    clear h hG hap HG hL hown hv hvv hk hx hr hcl hc hf hlen
    go_enter Tryz.func60, Tryz.ntmps60
    go_wp2_with (first | (go_at_call 91; (with_reducible refine (HG2.out _ (up_alloc (up_refl _) _)).mono ?_); rintro e w1 ⟨rfl, hup1⟩; have hbx1 := up_block hup1 (heap_alloc_new w (.cells #[.pointer (some ⟨b, 0, none⟩), .slice (some ad) L.length c, .map (some bm)] 54 (0, 0))); obtain ⟨o0, o1, o2, _, _, _⟩ := costO_cells hbx1; have hcl := up_cell (up_trans (up_alloc (up_refl w) _) hup1) HC.out; have HUP1 := Aside0.mk (up_trans (up_alloc (up_refl w) _) hup1); clear hup1 hbx1))
    go_ret
    refine ⟨r, rfl, HUP1.out, fun e => ?_, fun y hy => ?_⟩
    · rw [HF.out] at e
      cases e
    · rw [HF.out] at hy
      cases hy
      exact HOK.out
end Go.Proofs.YthneeainigdmhaaGreat.M

/-! The little table is told, walked. -/
set_option linter.unusedVariables false
set_option linter.unusedSimpArgs false
namespace Go.Proofs.YthneeainigdmhaaGreat.M
open Go.RowKit
set_option maxHeartbeats 16000000
set_option maxRecDepth 100000

theorem Made_fine (A : Option Addr) (c : Nat) (T : List Rec) (n : Nat) (w : World) (hT : Table w A T) (hW : ∀ x ∈ T, x.Wf) (hc : T.length ≤ c) (hn : T.length = n) (hl : n ≤ 150) (he : (checkE T).2 = 0) :
    Calls Tryz.prog 20 #[.slice A n c] w fun e w' => ∃ bd D A c, e = .returned (.tuple #[.pointer (some ⟨bd, 0, none⟩), .slice A n c, .int .i64 1]) ∧ DataAt w.heap.size w' bd D T ∧ TabFrom w.heap.size w' A T ∧ Up w w' := by
  subst hn
  have ht : T.take 150 = T := List.take_of_length_le hl
  refine (Made_calls A c T w hT hW hc).mono ?_
  rintro e w' h
  rw [ht] at h
  rcases h with ⟨h, _⟩ | ⟨_, h⟩
  · exact absurd he h
  · exact h
theorem DataAt.cell {H : Nat} {w : World} {bd : Nat} {D : DataV} {T : List Rec} (h : DataAt H w bd D T) (o : Nat) (v : Value) (hv : (D.cells T)[o]? = some v) : w.cell? ⟨bd, o, none⟩ = some v := (data_cell h.box hv).1
theorem DataAt.all {H : Nat} {w : World} {bd : Nat} {D : DataV} {T : List Rec} (h : DataAt H w bd D T) :
    (w.cell? ⟨bd, 0, none⟩ = some (.pointer (some ⟨D.b1, 0, none⟩)) ∧ w.cell? ⟨bd, 1, none⟩ = some (.pointer (some ⟨D.b2, 0, none⟩)) ∧ w.cell? ⟨bd, 2, none⟩ = some (.slice D.A1 D.n1 D.c1) ∧ w.cell? ⟨bd, 3, none⟩ = some (.pointer (some ⟨D.b3, 0, none⟩)) ∧ w.cell? ⟨bd, 4, none⟩ = some (.pointer (some ⟨D.b4, 0, none⟩)) ∧ w.cell? ⟨bd, 5, none⟩ = some (.pointer (some ⟨D.b5, 0, none⟩)) ∧ w.cell? ⟨bd, 6, none⟩ = some (.pointer (some ⟨D.b6, 0, none⟩))) ∧
    (w.cell? ⟨bd, 7, none⟩ = some (.map (some D.bo)) ∧ w.cell? ⟨bd, 8, none⟩ = some (.map (some D.bf)) ∧ w.cell? ⟨bd, 9, none⟩ = some (.map (some D.bl)) ∧ w.cell? ⟨bd, 10, none⟩ = some (.map (some D.bc)) ∧ w.cell? ⟨bd, 11, none⟩ = some (.map (some D.bs))) ∧
    w.cell? ⟨bd, 12, none⟩ = some (.pointer (some ⟨D.b7, 0, none⟩)) ∧ w.cell? ⟨bd, 13, none⟩ = some (.slice D.A2 (namesR (ofKind T 12)).length D.c2) ∧ w.cell? ⟨bd, 14, none⟩ = some (.pointer (some ⟨D.b8, 0, none⟩)) ∧ w.cell? ⟨bd, 15, none⟩ = some (.slice D.A3 D.n3 D.c3) ∧ w.cell? ⟨bd, 16, none⟩ = some (.map (some D.bm)) :=
  ⟨⟨h.cell 0 _ rfl, h.cell 1 _ rfl, h.cell 2 _ rfl, h.cell 3 _ rfl, h.cell 4 _ rfl, h.cell 5 _ rfl, h.cell 6 _ rfl⟩, ⟨h.cell 7 _ rfl, h.cell 8 _ rfl, h.cell 9 _ rfl, h.cell 10 _ rfl, h.cell 11 _ rfl⟩, h.cell 12 _ rfl, h.cell 13 _ rfl, h.cell 14 _ rfl, h.cell 15 _ rfl, h.cell 16 _ rfl⟩
/-! ### each property, of a compiled table -/
section
variable {H : Nat} {w : World} {bd : Nat} {D : DataV} {T : List Rec}
theorem DataAt.Status (h : DataAt H w bd D T) (d : Int) (r : Int) (hr : statF T d = r) (hd1 : -2147483648 ≤ d) (hd2 : d ≤ 2147483647) :
    Calls Tryz.prog 28 #[.agg #[.pointer (some ⟨D.b1, 0, none⟩), .pointer (some ⟨D.b2, 0, none⟩), .slice D.A1 D.n1 D.c1], .int .i32 d] w fun e w' => e = .returned (.int .i64 r) ∧ Up w w' := by
  subst hr
  exact Status_m _ w D.b1 _ _ (statF T) d h.stat.trie (statF_out) (statF_range d) hd1 hd2 D.b2 D.A1 D.n1 D.c1 rfl rfl
theorem DataAt.Mapping (h : DataAt H w bd D T) (hG : Good T) (d : Int) (r : List Int) (hr : mapF T d = r) (hd1 : -2147483648 ≤ d) (hd2 : d ≤ 2147483647) :
    Calls Tryz.prog 27 #[.agg #[.pointer (some ⟨D.b1, 0, none⟩), .pointer (some ⟨D.b2, 0, none⟩), .slice D.A1 D.n1 D.c1], .int .i32 d] w (RetRow r w) := by
  subst hr
  exact Mapping_m _ w D.b1 D.b2 D.A1 D.n1 D.c1 T d h.stat hG hd1 hd2
theorem DataAt.Class (h : DataAt H w bd D T) (hG : Good T) (d : Int) (r : Int) (hr : numF T 2 (·.n) d = r) (hd1 : -2147483648 ≤ d) (hd2 : d ≤ 2147483647) :
    Calls Tryz.prog 32 #[.agg #[.pointer (some ⟨D.b3, 0, none⟩)], .int .i32 d] w fun e w' => e = .returned (.int .i64 r) ∧ Up w w' := by
  subst hr
  exact Class_m _ w D.b3 _ d h.cls numF_out (numF_range (fun x hx hf => right_n (hG.right x hx) (.inl hf))) hd1 hd2
theorem DataAt.Bidi (h : DataAt H w bd D T) (hG : Good T) (d : Int) (r : Int) (hr : numF T 4 (·.n) d = r) (hd1 : -2147483648 ≤ d) (hd2 : d ≤ 2147483647) :
    Calls Tryz.prog 34 #[.agg #[.pointer (some ⟨D.b4, 0, none⟩)], .int .i32 d] w fun e w' => e = .returned (.int .i64 r) ∧ Up w w' := by
  subst hr
  exact Bidi_m _ w D.b4 _ d h.bidi numF_out (numF_range (fun x hx hf => right_n (hG.right x hx) (.inr (.inl hf)))) hd1 hd2
theorem DataAt.Join (h : DataAt H w bd D T) (hG : Good T) (d : Int) (r : Int) (hr : numF T 5 (·.n) d = r) (hd1 : -2147483648 ≤ d) (hd2 : d ≤ 2147483647) :
    Calls Tryz.prog 36 #[.agg #[.pointer (some ⟨D.b5, 0, none⟩)], .int .i32 d] w fun e w' => e = .returned (.int .i64 r) ∧ Up w w' := by
  subst hr
  exact Join_m _ w D.b5 _ d h.join numF_out (numF_range (fun x hx hf => right_n (hG.right x hx) (.inr (.inr hf)))) hd1 hd2
theorem DataAt.Mark (h : DataAt H w bd D T) (d : Int) (r : Bool) (hr : (numF T 6 (fun _ => 1) d == 1) = r) (hd1 : -2147483648 ≤ d) (hd2 : d ≤ 2147483647) :
    Calls Tryz.prog 37 #[.agg #[.pointer (some ⟨D.b6, 0, none⟩)], .int .i32 d] w fun e w' => e = .returned (.bool r) ∧ Up w w' :=
  Mark_m _ w D.b6 _ d r h.mark numF_out (numF_range (fun x hx hf => by omega)) hd1 hd2 hr
theorem DataAt.Weight (h : DataAt H w bd D T) (hG : Good T) (d : Int) (hd1 : -2147483648 ≤ d) (hd2 : d ≤ 2147483647) :
    Calls Tryz.prog 60 #[.agg #[.pointer (some ⟨D.b8, 0, none⟩), .slice D.A3 D.n3 D.c3, .map (some D.bm)], .int .i32 d] w fun e w' => ∃ r, e = .returned (.float .f64 r) ∧ Up w w' ∧ ((findR T 9 d = none → r = 0) ∧ ∀ x, findR T 9 d = some x → NarrowOk x.weight r) :=
  Weight_m _ w D.b8 D.bm D.A3 D.n3 D.c3 T d h.cost hG hd1 hd2
theorem DataAt.Compose (h : DataAt H w bd D T) (a b : Int) (r : Int) (ok : Bool) (hr : compF T a b = (r, ok)) (ha1 : -2147483648 ≤ a) (ha2 : a ≤ 2147483647) (hb1 : -2147483648 ≤ b) (hb2 : b ≤ 2147483647) :
    Calls Tryz.prog 41 #[.agg #[.map (some D.bo), .map (some D.bf), .map (some D.bl), .map (some D.bc), .map (some D.bs)], .int .i32 a, .int .i32 b] w fun e w' => e = .returned (.tuple #[.int .i32 r, .bool ok]) ∧ Up w w' := by
  obtain ⟨m, hf⟩ := h.forms
  have := Compose_m _ w D.bo D.bf D.bl D.bc D.bs m T a b hf ha1 ha2 hb1 hb2
  rw [hr] at this
  exact this
end
theorem little_good : Good littleT := (fine_of littleT_wf littleT_fine).toGood
theorem told_calls (w : World) : Calls Tryz.prog 26 #[] w fun e w' => e = .returned (.bool true) ∧ Up w w' := by
  have c1 : compF littleT 97 768 = (224, true) := by decide
  have c2 : mapF littleT 66 = [98] := by
    unfold mapF
    rw [show findR littleT 1 66 = some (sayR 4 65 90 1 [97] 0) from rfl]
    simp [sayR, wrap32, rd]
  have c3 : statF littleT 66 = 3 := by decide
  have c4 : numF littleT 2 (·.n) 768 = 230 := by decide
  have c5 : (numF littleT 6 (fun _ => 1) 768 == 1) = true := by decide
  have c6 : findR littleT 9 224 = some (sayR 14 224 224 0 [] 4591870180066957722) := by rfl
  have C1 := Aside0.mk c1
  have C2 := Aside0.mk c2
  have C3 := Aside0.mk c3
  have C4 := Aside0.mk c4
  have C5 := Aside0.mk c5
  have C6 := Aside0.mk c6
  clear c1 c2 c3 c4 c5 c6
  go_enter Tryz.func26, Tryz.ntmps26
  go_wp2_with (first | (go_at_call 70; (with_reducible refine (Little_calls _).mono ?_); rintro e w1 ⟨A1, n1, rfl, hT1, hup1⟩; have HT1 := Aside0.mk hT1; have HU1 := Aside0.mk hup1; clear hT1 hup1) | (go_at_call 20; (with_reducible refine (Made_fine A1 n1 littleT 10 _ HT1.out.table littleT_wf HT1.out.len rfl (by decide) littleT_fine).mono ?_); rintro e w2 ⟨bd, D, A2, n2, rfl, hD, _, hup2⟩; have HD := Aside0.mk hD; have HU2 := Aside0.mk (up_trans HU1.out hup2); obtain ⟨⟨a0, a1, a2, a3, a4, a5, a6⟩, ⟨a7, a8, a9, a10, a11⟩, a12, a13, a14, a15, a16⟩ := HD.out.all; have U2 := Aside0.mk (up_refl w2); clear hD hup2) | (go_at_call 41; (with_reducible refine ((HD.out.up U2.out).Compose 97 768 224 true C1.out (by decide) (by decide) (by decide) (by decide)).mono ?_); rintro e w3 ⟨rfl, hup3⟩; have U3 := Aside0.mk (up_trans U2.out hup3); obtain ⟨⟨a0, a1, a2, a3, a4, a5, a6⟩, ⟨a7, a8, a9, a10, a11⟩, a12, a13, a14, a15, a16⟩ := (HD.out.up U3.out).all; clear hup3) | (go_at_call 27; (with_reducible refine ((HD.out.up U3.out).Mapping little_good 66 [98] C2.out (by decide) (by decide)).mono ?_); rintro e w4 ⟨v4, rfl, hown4, hup4⟩; have U4 := Aside0.mk (up_trans U3.out hup4); obtain ⟨A4, c4, rfl, hi4, _⟩ := own_ints hown4; obtain ⟨ad4, hA4, hc4⟩ := hi4 0 (.int .i32 98) rfl; subst hA4; have hc4 : w4.cell? ad4 = some (.int .i32 98) := hc4; have HC4 := Aside0.mk hc4; clear hown4 hi4; obtain ⟨⟨a0, a1, a2, a3, a4, a5, a6⟩, ⟨a7, a8, a9, a10, a11⟩, a12, a13, a14, a15, a16⟩ := (HD.out.up U4.out).all; clear hup4) | (go_at_call 28; (with_reducible refine ((HD.out.up U4.out).Status 66 3 C3.out (by decide) (by decide)).mono ?_); rintro e w5 ⟨rfl, hup5⟩; have U5 := Aside0.mk (up_trans U4.out hup5); obtain ⟨⟨a0, a1, a2, a3, a4, a5, a6⟩, ⟨a7, a8, a9, a10, a11⟩, a12, a13, a14, a15, a16⟩ := (HD.out.up U5.out).all; clear hup5) | (go_at_call 32; (with_reducible refine ((HD.out.up U5.out).Class little_good 768 230 C4.out (by decide) (by decide)).mono ?_); rintro e w6 ⟨rfl, hup6⟩; have U6 := Aside0.mk (up_trans U5.out hup6); obtain ⟨⟨a0, a1, a2, a3, a4, a5, a6⟩, ⟨a7, a8, a9, a10, a11⟩, a12, a13, a14, a15, a16⟩ := (HD.out.up U6.out).all; clear hup6) | (go_at_call 37; (with_reducible refine ((HD.out.up U6.out).Mark 768 true C5.out (by decide) (by decide)).mono ?_); rintro e w7 ⟨rfl, hup7⟩; have U7 := Aside0.mk (up_trans U6.out hup7); obtain ⟨⟨a0, a1, a2, a3, a4, a5, a6⟩, ⟨a7, a8, a9, a10, a11⟩, a12, a13, a14, a15, a16⟩ := (HD.out.up U7.out).all; clear hup7) | (go_at_call 60; (with_reducible refine ((HD.out.up U7.out).Weight little_good 224 (by decide) (by decide)).mono ?_); rintro e w8 ⟨r8, rfl, hup8, _, hn8⟩; have U8 := Aside0.mk (up_trans U7.out hup8); have hr8 : r8 = 4591870180174331904 := hn8 _ C6.out rfl; subst hr8; clear hn8; obtain ⟨⟨a0, a1, a2, a3, a4, a5, a6⟩, ⟨a7, a8, a9, a10, a11⟩, a12, a13, a14, a15, a16⟩ := (HD.out.up U8.out).all; clear hup8) | (go_at_call 59; (with_reducible refine (Bits_quiet 4591870180174331904 _).mono ?_); rintro e w9 ⟨rfl, rfl⟩))
  go_ret
  exact ⟨rfl, up_trans HU2.out U8.out⟩
end Go.Proofs.YthneeainigdmhaaGreat.M
