/- What is asked of a compiled table, walked: Script; and each of a table's data. -/
import Derived.Test.YthneeainigdmhaaGreatPMeth4
set_option linter.unusedVariables false
set_option linter.unusedSimpArgs false
namespace Go.Proofs.YthneeainigdmhaaGreat.M
open Go.RowKit
set_option maxHeartbeats 8000000
set_option maxRecDepth 100000

theorem scr_range {T : List Rec} (hG : Good T) (c : Int) : 0 ≤ scrF T c ∧ scrF T c ≤ 65535 ∧ (c < 0 ∨ 1114111 < c → scrF T c = 0) := by
  have hl : (namesR (ofKind T 12)).length ≤ 4096 := by
    have h1 := onceL_length ((ofKind T 12).map (·.name))
    rw [List.length_map] at h1
    have h2 : (ofKind T 12).length ≤ T.length := List.length_filter_le _ _
    have := hG.len
    unfold namesR
    omega
  unfold scrF
  refine ⟨?_, ?_, fun h => ?_⟩
  · cases findR T 7 c with
    | none => show (0 : Int) ≤ 0; decide
    | some x => show 0 ≤ placeN (ofKind T 12) x.name; unfold placeN; omega
  · cases findR T 7 c with
    | none => show (0 : Int) ≤ 65535; decide
    | some x =>
      show placeN (ofKind T 12) x.name ≤ 65535
      unfold placeN
      have := List.idxOf_le_length (a := x.name) (l := namesR (ofKind T 12))
      omega
  · rw [findR_out h]
theorem scr_name {T : List Rec} (hG : Good T) {c : Int} {x : Rec} (h : findR T 7 c = some x) : x.name ∈ namesR (ofKind T 12) := by
  obtain ⟨h1, h2⟩ := findR_some h
  have hk := (hG.right x h1).kind
  have hf := (hit_span h2).1
  have hk12 : x.kind = 12 := by
    generalize x.kind = q at hk hf
    rcases fam_cases hk.1 hk.2 with rfl | rfl | rfl | rfl | rfl | rfl | rfl | rfl | rfl | rfl | rfl | rfl | rfl | rfl | rfl <;> first | rfl | (exfalso; revert hf; decide)
  refine onceL_mem _ _ (List.mem_map.2 ⟨x, ?_, rfl⟩)
  unfold ofKind
  exact List.mem_filter.2 ⟨h1, by simpa using hk12⟩
theorem Script_m (H : Nat) (w : World) (b : Nat) (A : Option Addr) (n c : Nat) (T : List Rec) (d : Int) (h : ScrAt H w b A T) (hn : n = (namesR (ofKind T 12)).length) (hG : Good T) (hd1 : -2147483648 ≤ d) (hd2 : d ≤ 2147483647) (r : ByteArray) (hr : scriptF T d = r) :
    Calls Tryz.prog 39 #[.agg #[.pointer (some ⟨b, 0, none⟩), .slice A n c], .int .i32 d] w fun e w' => e = .returned (.string r) ∧ Up w w' := by
  have hsr := scr_range hG d
  have HG : Aside0 (∀ W, Up w W → Calls Tryz.prog 91 #[.pointer (some ⟨b, 0, none⟩), .int .i64 d] W fun e w' => e = .returned (.int .i64 (scrF T d)) ∧ Up W w') := ⟨fun W hW => Get_calls H W b (scrF T) d (h.trie.up hW) hsr.2.2 ⟨hsr.1, hsr.2.1⟩⟩
  cases hf : findR T 7 d with
  | none =>
    have h0 : scrF T d = 0 := by unfold scrF; rw [hf]
    have hr0 : (⟨#[]⟩ : ByteArray) = r := by rw [← hr]; unfold scriptF; rw [hf]
    have HG2 : Aside0 (∀ W, Up w W → Calls Tryz.prog 91 #[.pointer (some ⟨b, 0, none⟩), .int .i64 d] W fun e w' => e = .returned (.int .i64 0) ∧ Up W w') := ⟨fun W hW => by rw [← h0]; exact HG.out W hW⟩
    subst hr0
    clear h hG HG h0 hf hsr hr hn
    go_enter Tryz.func39, Tryz.ntmps39
    go_wp2_with (first | (go_at_call 91; (with_reducible refine (HG2.out _ (up_alloc (up_refl _) _)).mono ?_); rintro e w1 ⟨rfl, hup1⟩))
    go_ret
    exact ⟨rfl, up_trans (up_alloc (up_refl _) _) hup1⟩
  | some x =>
    have hmem := scr_name hG hf
    have hk : (namesR (ofKind T 12)).idxOf x.name < (namesR (ofKind T 12)).length := List.idxOf_lt_length_iff.2 hmem
    have hr0 : x.name = r := by rw [← hr]; unfold scriptF; rw [hf]
    obtain ⟨k, hkk⟩ : ∃ k, (namesR (ofKind T 12)).idxOf x.name = k := ⟨_, rfl⟩
    have hget : (namesR (ofKind T 12))[k]? = some x.name := by
      rw [← hkk, List.getElem?_eq_getElem hk, List.getElem_idxOf hk]
    have hv : scrF T d = (k : Int) + 1 := by
      unfold scrF
      rw [hf]
      show placeN (ofKind T 12) x.name = _
      unfold placeN
      rw [hkk]
    obtain ⟨ad, hA, hc⟩ := h.names k (.string x.name) (by unfold strs_; rw [List.getElem?_map, hget]; rfl)
    subst hA
    rw [hr0] at hc
    obtain ⟨v, hvv⟩ : ∃ v : Int, (k : Int) + 1 = v := ⟨_, rfl⟩
    have HG2 : Aside0 (∀ W, Up w W → Calls Tryz.prog 91 #[.pointer (some ⟨b, 0, none⟩), .int .i64 d] W fun e w' => e = .returned (.int .i64 v) ∧ Up W w') := ⟨fun W hW => by rw [← hvv, ← hv]; exact HG.out W hW⟩
    rw [hkk, ← hn] at hk
    have e0 : decide (0 < v) = true := decide_eq_true (by omega)
    have hsub : wrap64 (v - 1) = (k : Int) := by
      have := hsr.2.1
      unfold wrap64
      omega
    have f1 : 0 ≤ (k : Int) := by omega
    have f2 : (k : Int) < (n : Int) := by omega
    have HC := Aside0.mk hc
    clear h hG HG hv hvv hk hc hf hr hr0 hmem hkk hget hsr hn
    go_enter Tryz.func39, Tryz.ntmps39
    go_wp2_with (first | (go_at_call 91; (with_reducible refine (HG2.out _ (up_alloc (up_refl _) _)).mono ?_); rintro e w1 ⟨rfl, hup1⟩; have o1 : w1.cell? ⟨w.heap.size, 1, none⟩ = some (.slice (some ad) n c) := up_cell hup1 ((cell_of_row _ _ _ _ _ (0, 0) (heap_alloc_new w (.cells #[.pointer (some ⟨b, 0, none⟩), .slice (some ad) n c] 50 (0, 0)))).trans rfl); have hcl := up_cell (up_trans (up_alloc (up_refl _) _) hup1) HC.out; have HUP1 := Aside0.mk (up_trans (up_alloc (up_refl w) _) hup1); clear hup1))
    go_ret
    exact ⟨rfl, HUP1.out⟩
section
variable {H : Nat} {w : World} {bd : Nat} {D : DataV} {T : List Rec}
theorem DataAt.Script (h : DataAt H w bd D T) (hG : Good T) (d : Int) (r : ByteArray) (hr : scriptF T d = r) (hd1 : -2147483648 ≤ d) (hd2 : d ≤ 2147483647) :
    Calls Tryz.prog 39 #[.agg #[.pointer (some ⟨D.b7, 0, none⟩), .slice D.A2 (namesR (ofKind T 12)).length D.c2], .int .i32 d] w fun e w' => e = .returned (.string r) ∧ Up w w' :=
  Script_m _ w D.b7 D.A2 _ D.c2 T d h.scr rfl hG hd1 hd2 r hr
theorem DataAt.Open (h : DataAt H w bd D T) (hG : Good T) (d : Int) (r : List Int) (hr : openF T d = r) (hd1 : -2147483648 ≤ d) (hd2 : d ≤ 2147483647) :
    Calls Tryz.prog 42 #[.agg #[.map (some D.bo), .map (some D.bf), .map (some D.bl), .map (some D.bc), .map (some D.bs)], .int .i32 d] w (RetRow r w) := by
  subst hr
  obtain ⟨m, hf⟩ := h.forms
  exact Open_m _ w _ _ _ _ _ m T d hf hG hd1 hd2
theorem DataAt.Looks (h : DataAt H w bd D T) (hG : Good T) (d : Int) (r : List Int) (hr : looksF T d = r) (hd1 : -2147483648 ≤ d) (hd2 : d ≤ 2147483647) :
    Calls Tryz.prog 49 #[.agg #[.map (some D.bo), .map (some D.bf), .map (some D.bl), .map (some D.bc), .map (some D.bs)], .int .i32 d] w (RetRow r w) := by
  subst hr
  obtain ⟨m, hf⟩ := h.forms
  exact Looks_m _ w _ _ _ _ _ m T d hf hG hd1 hd2
theorem DataAt.Full (h : DataAt H w bd D T) (hF : Fine T) (d : Int) (r : List Int) (hr : fullL T d = r) (hd1 : -2147483648 ≤ d) (hd2 : d ≤ 2147483647) :
    Calls Tryz.prog 44 #[.agg #[.map (some D.bo), .map (some D.bf), .map (some D.bl), .map (some D.bc), .map (some D.bs)], .int .i32 d] w (RetRow r w) := by
  subst hr
  obtain ⟨m, hf⟩ := h.forms
  exact Full_m _ w _ _ _ _ _ m T d hf hF hd1 hd2
theorem DataAt.Second (h : DataAt H w bd D T) (d : Int) (r : Bool) (hr : secondF T d = r) (hd1 : -2147483648 ≤ d) (hd2 : d ≤ 2147483647) :
    Calls Tryz.prog 43 #[.agg #[.map (some D.bo), .map (some D.bf), .map (some D.bl), .map (some D.bc), .map (some D.bs)], .int .i32 d] w fun e w' => e = .returned (.bool r) ∧ Up w w' := by
  obtain ⟨m, hf⟩ := h.forms
  exact Second_m _ w _ _ _ _ _ m T d hf hd1 hd2 r hr
end
end Go.Proofs.YthneeainigdmhaaGreat.M
