/- What is asked of a compiled table, walked: Open, Looks, Second, Script. -/
import Derived.Test.YtnohcnneflogjaaGreatK38
import Derived.Test.YtnohcnneflogjaaGreatK07
set_option maxHeartbeats 8000000
set_option maxRecDepth 100000
set_option linter.unusedVariables false
set_option linter.unusedSimpArgs false
namespace Go.Proofs.YtnohcnneflogjaaGreat.M
open Go.RowKit
theorem zero_rows (w : World) : (zeroValue 23).run Tryz.prog w = .ok nilS w := by kernel_rfl
abbrev formsC (bo bf bl bc bs : Nat) : Obj := .cells #[.map (some bo), .map (some bf), .map (some bl), .map (some bc), .map (some bs)] 47
theorem formsC_cell (w : World) (bo bf bl bc bs : Nat) (j : Nat) (v : Value) (h : (#[Value.map (some bo), .map (some bf), .map (some bl), .map (some bc), .map (some bs)] : Array Value)[j]? = some v) : (w.alloc (formsC bo bf bl bc bs)).cell? ⟨w.heap.size, j, none⟩ = some v :=
 (cell_of_row _ _ _ _ _ (0, 0) (heap_alloc_new w _)).trans h
theorem Open_nil (d : Int) (w : World) (hd1 : -2147483648 ≤ d) (hd2 : d ≤ 2147483647) : Calls Tryz.prog 83 #[.slice none 0 0, .int .i32 d] w (RetRow (openF [] d) w) :=
 Open_calls none 0 [] d w (fun i x h => by simp at h) (fun x h => by simp at h) (fun x h => by simp at h) (by decide) hd1 hd2
theorem rights_len {x : Rec} (hW : x.Wf) : x.to.length * 4 ≤ 140737488351232 := hW.len
theorem findR_to_len {T : List Rec} (hG : Good T) (f c : Int) (l : List Int) (h : (rowG T f (·.to) c) = some l) : l.length * 4 ≤ 140737488351232 := by
 unfold rowG at h
 cases hf : findR T f c with
 | none => rw [hf] at h; cases h
 | some x =>
   rw [hf] at h
   cases h
   exact (hG.wf x (findR_some hf).1).len
theorem RetRow.up {l : List Int} {w w1 : World} (hu : Up w w1) {e : Ending} {w' : World} (h : RetRow l w1 e w') : RetRow l w e w' := by
 obtain ⟨v, h1, h2, h3⟩ := h
 exact ⟨v, h1, own_mono h2 hu.size, up_trans hu h3⟩
section
variable {H : Nat} {w : World} {bd : Nat} {D : DataV} {T : List Rec}
theorem Open_m (H : Nat) (w : World) (bo bf bl bc bs m : Nat) (T : List Rec) (d : Int) (h : FormsP H w bo bf bl bc bs m T T) (hG : Good T) (hd1 : -2147483648 ≤ d) (hd2 : d ≤ 2147483647) :
 Calls Tryz.prog 38 #[.agg #[.map (some bo), .map (some bf), .map (some bl), .map (some bc), .map (some bs)], .int .i32 d] w (RetRow (openF T d) w) := by
 by_cases hs : syl d = true
 ·have ho : openF T d = openF [] d := by unfold openF; rw [hs]; rfl
  rw [ho]
  have HS := Az.mk hs
  have HC : Az (∀ W, Calls Tryz.prog 83 #[.slice none 0 0, .int .i32 d] W (RetRow (openF [] d) W)) := ⟨fun W => Open_nil d W hd1 hd2⟩
  clear hs ho h
  go_enter Tryz.func38, Tryz.ntmps38
  go_wp2_with (first | (go_at_call 80; (with_reducible refine (usyl_calls d _ _ HS.out).mono ?_); rintro e w1 ⟨rfl, rfl⟩) | (go_at_call 83; (with_reducible refine (HC.out _).mono ?_); rintro e w2 ⟨v2, rfl, hown2, hup2⟩))
  go_ret
  exact RetRow.up (up_alloc (up_refl _) (formsC bo bf bl bc bs)) ⟨v2, rfl, hown2, hup2⟩
 ·have hs0 : syl d = false := by cases h' : syl d with | true => exact absurd h' hs | false => rfl
  have HS := Az.mk hs0
  obtain ⟨A, cap, hi, hfrom, hl⟩ := (h.opens.up (up_alloc (up_refl w) (formsC bo bf bl bc bs))).look 43 _ Tryz.underlying43 zero_rows d (i32_wf hd1 hd2)
  have ho : (rowG T 3 (·.to) d).getD [] = openF T d := by
   unfold openF rowG
   rw [hs0]
   cases findR T 3 d <;> rfl
  have hlen : (openF T d).length * 4 ≤ 140737488351232 := by
   rw [← ho]
   cases hg : rowG T 3 (·.to) d with
   | none => simp
   | some l => exact findR_to_len hG 3 d l hg
  rw [ho] at hi hl
  obtain ⟨l, hll⟩ : ∃ l, openF T d = l := ⟨_, rfl⟩
  rw [hll] at hi hl hlen ⊢
  have hl1 := hl false
  simp only [Bool.false_eq_true, if_false] at hl1
  have HI := Az.mk hi
  have HLEN : Az (0 + l.length ≤ maxLen ∧ (0 + l.length) * 4 ≤ 140737488355328) := ⟨by unfold maxLen; omega⟩
  obtain ⟨ie, ze, hie, hze, hsi, hby, hzc⟩ := i32_info
  have c0 := formsC_cell w bo bf bl bc bs 0 _ rfl
  clear hs hs0 h hi hfrom hl ho hlen hll
  go_enter Tryz.func38, Tryz.ntmps38
  go_wp2_with (first | (go_at_call 80; (with_reducible refine (usyl_calls d _ _ HS.out).mono ?_); rintro e w1 ⟨rfl, rfl⟩) | (at_builtin; refine (wpList_append_row _ rfl _ _ 23 rfl w.heap.size 21 ie ze 1 4 Tryz.underlying23 hie hze hsi hby hzc (by decide) _ 0 [] rfl (World.ownsRow_nil _ _ _ _) A l.length cap (l.map (Value.int .i32)) rfl (by simp) ?ha (ints_one _ _) ?hb ?hc ?hd ?_); (case ha => exact HI.out); (case hb => exact HLEN.out.1); (case hc => exact HLEN.out.2); (case hd => simp); intro v' w3 hown' hgrow hat'))
  go_ret
  rw [Nat.zero_add, List.nil_append] at hown'
  exact ⟨_, rfl, hown', up_trans (up_alloc (up_refl _) (formsC bo bf bl bc bs)) (up_nil hgrow rfl)⟩
theorem rowG_no {T : List Rec} {f d : Int} {g : Rec → List Int} (hg : rowG T f g d = none) : findR T f d = none := by
 unfold rowG at hg
 cases hf : findR T f d with
 | none => rfl
 | some x => rw [hf] at hg; cases hg
theorem looks_no {T : List Rec} {d : Int} (hg : rowG T 8 (·.to) d = none) : looksF T d = [d] := by
 unfold looksF
 rw [rowG_no hg]
theorem looks_of {T : List Rec} {d : Int} {l : List Int} (hg : rowG T 8 (·.to) d = some l) : looksF T d = l := by
 unfold rowG at hg
 unfold looksF
 cases hf : findR T 8 d with
 | none => rw [hf] at hg; cases hg
 | some x => rw [hf] at hg; injection hg
theorem full_of {T : List Rec} (hG : Good T) {d : Int} {l : List Int} (hg : rowG T 3 (fun x => fullL T x.lo) d = some l) : fullL T d = l := by
 unfold rowG at hg
 cases hf : findR T 3 d with
 | none => rw [hf] at hg; cases hg
 | some x =>
   rw [hf] at hg
   injection hg with hg
   have hg : fullL T x.lo = l := hg
   rwa [(dec_lo hG hf).1] at hg
theorem own_lit (w : World) (l : List Int) (hl : l.length ≤ maxLen) : (w.alloc (.cells (l.map (Value.int .i32)).toArray 21)).ownsRow w.heap.size 21 1 (.slice (some ⟨w.heap.size, 0, none⟩) l.length l.length) l.length (l.map (Value.int .i32)) := by
 have h := World.ownsRow_lit (base := w.heap.size) (e := 21) (size := 1) w (l.map (Value.int .i32)).toArray l.length (Nat.le_refl _) hl (by simp)
 simpa using h
theorem mmeth4_2 {p : Prop} (h : p := by
 go_wp2_with (first | (at_builtin; refine (wpList_append_row _ rfl _ _ 23 rfl w.heap.size 21 ie ze 1 4 Tryz.underlying23 hie hze hsi hby hzc (by decide) _ 0 [] rfl (World.ownsRow_nil _ _ _ _) A l.length cap (l.map (Value.int .i32)) rfl (by simp) ?ha (ints_one _ _) ?hb ?hc ?hd ?_); (case ha => exact HI.out); (case hb => exact HLEN.out.1); (case hc => exact HLEN.out.2); (case hd => simp); intro v' w3 hown' hgrow hat'))
 go_ret
 rw [Nat.zero_add, List.nil_append] at hown'
 exact ⟨_, rfl, hown', up_trans (up_alloc (up_refl _) (formsC bo bf bl bc bs)) (up_nil hgrow rfl)⟩) : p := h
theorem mmeth4_1 {p : Prop} (h : p := by
 go_enter Tryz.func136, Tryz.ntmps136
 go_wp2_with (first | (go_at_call 89; (with_reducible refine (uV_calls d _ _ H1.out).mono ?_); rintro e w1 ⟨rfl, rfl⟩) | (go_at_call 90; (with_reducible refine (uT_calls d _ _ H2.out).mono ?_); rintro e w1 ⟨rfl, rfl⟩))
 go_ret
 exact ⟨rfl, up_alloc (up_refl _) _⟩) : p := h
theorem Second_m (H : Nat) (w : World) (bo bf bl bc bs m : Nat) (T : List Rec) (d : Int) (h : FormsP H w bo bf bl bc bs m T T) (hd1 : -2147483648 ≤ d) (hd2 : d ≤ 2147483647) (r : Bool) (hr : secondF T d = r) :
 Calls Tryz.prog 136 #[.agg #[.map (some bo), .map (some bf), .map (some bl), .map (some bc), .map (some bs)], .int .i32 d] w fun e w' => e = .returned (.bool r) ∧ Up w w' := by
 have hl := (h.sec.up (up_alloc (up_refl w) (formsC bo bf bl bc bs))).look 45 _ keyed_i32 Tryz.underlying45 zero_i64 d (key_int .i32 d _ Tryz.underlying21 (i32_wf hd1 hd2)) false
 have c0 := formsC_cell w bo bf bl bc bs 4 _ rfl
 have hv : ∃ v : Int, (secG T d).getD (.int .i64 0) = .int .i64 v ∧ (v == 1) = T.any (fun x => decide (x.kind = 7) && decide (rd x.to 1 = d)) := by
  unfold secG
  cases T.any (fun x => decide (x.kind = 7) && decide (rd x.to 1 = d)) with
  | true => exact ⟨1, rfl, rfl⟩
  | false => exact ⟨0, rfl, rfl⟩
 obtain ⟨v, hv1, hv2⟩ := hv
 rw [hv1] at hl
 simp only [Bool.false_eq_true, if_false] at hl
 unfold secondF at hr
 rw [← hv2] at hr
 clear hv1 hv2 h
 cases h1 : jv d with
 | true =>
   have H1 := Az.mk h1
   rw [h1] at hr
   have hr : true = r := hr
   subst hr
   clear h1
   exact mmeth4_1
 | false =>
   cases h2 : jt d with
   | true =>
     have H1 := Az.mk h1
     have H2 := Az.mk h2
     rw [h1, h2] at hr
     have hr : true = r := hr
     subst hr
     clear h1 h2
     exact mmeth4_1
   | false =>
     have H1 := Az.mk h1
     have H2 := Az.mk h2
     rw [h1, h2] at hr
     have hr : (v == 1) = r := hr
     subst hr
     clear h1 h2
     exact mmeth4_1
theorem Full_m (H : Nat) (w : World) (bo bf bl bc bs m : Nat) (T : List Rec) (d : Int) (h : FormsP H w bo bf bl bc bs m T T) (hF : Fine T) (hd1 : -2147483648 ≤ d) (hd2 : d ≤ 2147483647) :
 Calls Tryz.prog 28 #[.agg #[.map (some bo), .map (some bf), .map (some bl), .map (some bc), .map (some bs)], .int .i32 d] w (RetRow (fullL T d) w) := by
 obtain ⟨A, cap, hi, hfrom, hl⟩ := (h.full.up (up_alloc (up_refl w) (formsC bo bf bl bc bs))).look 43 _ Tryz.underlying43 zero_rows d (i32_wf hd1 hd2)
 have hl1 := hl true
 have c0 := formsC_cell w bo bf bl bc bs 1 _ rfl
 cases hg : rowG T 3 (fun x => fullL T x.lo) d with
 | some l =>
   rw [hg] at hi hl1
   simp only [Option.getD_some, Option.isSome_some, if_true] at hi hl1
   have hres : fullL T d = l := full_of hF.toGood hg
   rw [hres]
   have hlen : l.length * 4 ≤ 140737488351232 := by have := fullF_len (hF.full d); rw [hres] at this; omega
   have HI := Az.mk hi
   have HLEN : Az (0 + l.length ≤ maxLen ∧ (0 + l.length) * 4 ≤ 140737488355328) := ⟨by unfold maxLen; omega⟩
   obtain ⟨ie, ze, hie, hze, hsi, hby, hzc⟩ := i32_info
   clear h hi hfrom hl hg hres hlen
   go_enter Tryz.func28, Tryz.ntmps28
   exact mmeth4_2
 | none =>
   rw [hg] at hi hl1
   simp only [Option.getD_none, Option.isSome_none, if_true, List.length_nil] at hi hl1
   have hfn := rowG_no hg
   cases hs : syl d with
   | false =>
     have hres : fullL T d = [d] := by
      unfold fullL
      rw [full_none (by unfold openF; rw [hs, hfn]; rfl)]
     rw [hres]
     have HS := Az.mk hs
     clear h hi hfrom hl hg hres hfn hs
     go_enter Tryz.func28, Tryz.ntmps28
     go_wp2_with (first | (go_at_call 80; (with_reducible refine (usyl_calls d _ _ HS.out).mono ?_); rintro e w1 ⟨rfl, rfl⟩))
     go_ret
     refine ⟨_, rfl, ?_, up_alloc (up_alloc (up_refl _) (formsC bo bf bl bc bs)) _⟩
     have := own_mono (own_lit (w.alloc (formsC bo bf bl bc bs)) [d] (by unfold maxLen; simp)) (show w.heap.size ≤ (w.alloc (formsC bo bf bl bc bs)).heap.size by simp)
     simpa using this
   | true =>
     have hres : fullL T d = sylL d := by
      unfold fullL
      rw [full_syl hF hs]
     rw [hres]
     have HS := Az.mk hs
     have hsy := syl_iff hs
     have p1 : 44032 ≤ d := hsy.1
     have p2 : d ≤ 55203 := hsy.2
     obtain ⟨ie, ze, hie, hze, hsi, hby, hzc⟩ := i32_info
     unfold sylL
     obtain ⟨a, ha⟩ : ∃ a, 4352 + (d - 44032) / 28 / 21 = a := ⟨_, rfl⟩
     obtain ⟨b, hb⟩ : ∃ b, 4449 + (d - 44032) / 28 % 21 = b := ⟨_, rfl⟩
     have q1 : (d - 44032).tdiv 28 = (d - 44032) / 28 := Int.tdiv_eq_ediv_of_nonneg (by omega)
     have q2 : ((d - 44032) / 28).tdiv 21 = (d - 44032) / 28 / 21 := Int.tdiv_eq_ediv_of_nonneg (by omega)
     have q3 : ((d - 44032) / 28).tmod 21 = (d - 44032) / 28 % 21 := Int.tmod_eq_emod_of_nonneg (by omega)
     have q4 : (d - 44032).tmod 28 = (d - 44032) % 28 := Int.tmod_eq_emod_of_nonneg (by omega)
     clear h hi hfrom hl hg hres hfn hs
     rw [ha, hb]
     have HUW : Az (Up w ((w.alloc (formsC bo bf bl bc bs)).alloc (.cells #[.int .i32 a, .int .i32 b] 21))) := ⟨up_alloc (up_alloc (up_refl _) _) _⟩
     have HOT : Az (((w.alloc (formsC bo bf bl bc bs)).alloc (.cells #[.int .i32 a, .int .i32 b] 21)).ownsRow w.heap.size 21 1 (.slice (some ⟨w.heap.size + 1, 0, none⟩) 2 2) 2 ([a, b].map (Value.int .i32))) := ⟨by
      have h := own_mono (own_two (w.alloc (formsC bo bf bl bc bs)) a b) (show w.heap.size ≤ (w.alloc (formsC bo bf bl bc bs)).heap.size by simp)
      simpa using h⟩
     by_cases hr : 0 < (d - 44032) % 28
     ·rw [if_pos hr]
      obtain ⟨x, hx⟩ : ∃ x, 4519 + (d - 44032) % 28 = x := ⟨_, rfl⟩
      rw [hx]
      have HCO : Az (Cells (((w.alloc (formsC bo bf bl bc bs)).alloc (.cells #[.int .i32 a, .int .i32 b] 21)).alloc (.cells #[.int .i32 x] 21)) (some ⟨w.heap.size + 1 + 1, 0, none⟩) [.int .i32 x]) := ⟨by
       have h := cells_one ((w.alloc (formsC bo bf bl bc bs)).alloc (.cells #[.int .i32 a, .int .i32 b] 21)) (.int .i32 x) 21
       simpa using h⟩
      have HML : Az (2 + 1 ≤ maxLen) := ⟨by unfold maxLen; decide⟩
      go_enter Tryz.func28, Tryz.ntmps28
      go_wp2_with (first | (go_at_call 80; (with_reducible refine (usyl_calls d _ _ HS.out).mono ?_); rintro e w1 ⟨rfl, rfl⟩) | (at_builtin; refine (wpList_append_row _ rfl _ _ 23 rfl w.heap.size 21 ie ze 1 4 Tryz.underlying23 hie hze hsi hby hzc (by decide) (.slice (some ⟨w.heap.size + 1, 0, none⟩) 2 2) 2 ([a, b].map (Value.int .i32)) rfl (HOT.out.alloc _) (some ⟨w.heap.size + 1 + 1, 0, none⟩) 1 1 [.int .i32 x] rfl rfl ?ha (ints_one .i32 [x]) ?hb ?hc ?hd ?_); (case ha => exact HCO.out); (case hb => exact HML.out); (case hc => decide); (case hd => exact (up_alloc HUW.out (.cells #[.int .i32 x] 21)).size); intro v6 w3 hown6 hgrow6 hat6; obtain ⟨A6, c6, hv6⟩ := own_any hown6; subst hv6; have HO6 := Az.mk hown6; have HU6 := Az.mk ((up_alloc HUW.out (.cells #[.int .i32 x] 21)).grown hgrow6 (up_alloc HUW.out (.cells #[.int .i32 x] 21)).size (fun k hk => (HOT.out.lt k hk).1)); clear hown6 hgrow6 hat6))
      go_ret
      exact ⟨_, rfl, by have := HO6.out; simpa using this, HU6.out⟩
     ·rw [if_neg hr]
      go_enter Tryz.func28, Tryz.ntmps28
      go_wp2_with (first | (go_at_call 80; (with_reducible refine (usyl_calls d _ _ HS.out).mono ?_); rintro e w1 ⟨rfl, rfl⟩))
      go_ret
      exact ⟨_, rfl, by have := HOT.out; simpa using this, HUW.out⟩
end
end Go.Proofs.YtnohcnneflogjaaGreat.M
namespace Go.Proofs.YtnohcnneflogjaaGreat.M
open Go.RowKit
theorem scr_range {T : List Rec} (hG : Good T) (c : Int) : 0 ≤ scrF T c ∧ scrF T c ≤ 65535 ∧ (c < 0 ∨ 1114111 < c → scrF T c = 0) := by
 have hl : (namesR (ofKind T 12)).length ≤ 4096 := by
  have h1 := onceL_length ((ofKind T 12).map (·.name))
  rw [List.length_map] at h1
  have h2 : (ofKind T 12).length ≤ T.length := List.length_filter_le _ _
  have := hG.len
  unfold namesR
  omega
 unfold scrF
 refine ⟨?_, ?_, fun h => ?_⟩
 ·cases findR T 7 c with
  | none => show (0 : Int) ≤ 0; decide
  | some x => show 0 ≤ placeN (ofKind T 12) x.name; unfold placeN; omega
 ·cases findR T 7 c with
  | none => show (0 : Int) ≤ 65535; decide
  | some x =>
    show placeN (ofKind T 12) x.name ≤ 65535
    unfold placeN
    have := List.idxOf_le_length (a := x.name) (l := namesR (ofKind T 12))
    omega
 ·rw [findR_out h]
theorem scr_name {T : List Rec} (hG : Good T) {c : Int} {x : Rec} (h : findR T 7 c = some x) : x.name ∈ namesR (ofKind T 12) := by
 obtain ⟨h1, h2⟩ := findR_some h
 have hk := (hG.right x h1).kind
 have hf := (hit_span h2).1
 have hk12 : x.kind = 12 := by
  generalize x.kind = q at hk hf
  rcases fam_cases hk.1 hk.2 with rfl | rfl | rfl | rfl | rfl | rfl | rfl | rfl | rfl | rfl | rfl | rfl | rfl | rfl | rfl <;> first | rfl | (exfalso; revert hf; decide)
 refine onceL_mem _ _ (List.mem_map.2 ⟨x, ?_, rfl⟩)
 unfold ofKind
 exact List.mem_filter.2 ⟨h1, by simpa using hk12⟩
section
variable {H : Nat} {w : World} {bd : Nat} {D : DataV} {T : List Rec}
theorem DataAt.Open (h : DataAt H w bd D T) (hG : Good T) (d : Int) (r : List Int) (hr : openF T d = r) (hd1 : -2147483648 ≤ d) (hd2 : d ≤ 2147483647) :
 Calls Tryz.prog 38 #[.agg #[.map (some D.bo), .map (some D.bf), .map (some D.bl), .map (some D.bc), .map (some D.bs)], .int .i32 d] w (RetRow r w) := by
 subst hr
 obtain ⟨m, hf⟩ := h.forms
 exact Open_m _ w _ _ _ _ _ m T d hf hG hd1 hd2
theorem DataAt.Full (h : DataAt H w bd D T) (hF : Fine T) (d : Int) (r : List Int) (hr : fullL T d = r) (hd1 : -2147483648 ≤ d) (hd2 : d ≤ 2147483647) :
 Calls Tryz.prog 28 #[.agg #[.map (some D.bo), .map (some D.bf), .map (some D.bl), .map (some D.bc), .map (some D.bs)], .int .i32 d] w (RetRow r w) := by
 subst hr
 obtain ⟨m, hf⟩ := h.forms
 exact Full_m _ w _ _ _ _ _ m T d hf hF hd1 hd2
theorem DataAt.Second (h : DataAt H w bd D T) (d : Int) (r : Bool) (hr : secondF T d = r) (hd1 : -2147483648 ≤ d) (hd2 : d ≤ 2147483647) :
 Calls Tryz.prog 136 #[.agg #[.map (some D.bo), .map (some D.bf), .map (some D.bl), .map (some D.bc), .map (some D.bs)], .int .i32 d] w fun e w' => e = .returned (.bool r) ∧ Up w w' := by
 obtain ⟨m, hf⟩ := h.forms
 exact Second_m _ w _ _ _ _ _ m T d hf hd1 hd2 r hr
end
end Go.Proofs.YtnohcnneflogjaaGreat.M
