/- endonymlaw17.told and few, walked. (printed by mktold17.py) -/
import Derived.Test.YthneeainigdmhaaGreatPBidi3
import Derived.Test.YthneeainigdmhaaGreatPHebr
import Derived.Test.YthneeainigdmhaaGreatK35
set_option linter.unusedVariables false
set_option linter.unusedSimpArgs false
namespace Go.Proofs.YthneeainigdmhaaGreat.M
open Go.RowKit
set_option maxHeartbeats 16000000
set_option maxRecDepth 100000
attribute [local go_sem] max_two_int min_two_int

theorem Rules_nil (A : Option Addr) (n c : Nat) (w : World) : Calls Tryz.prog 47 #[.pointer none, .slice A n c] w fun e w' => e = .returned (.int .i64 0) ∧ w = w' := by
  go_enter Tryz.func47, Tryz.ntmps47
  go_wp2
  go_ret
  exact ⟨rfl, rfl⟩
theorem Has_nil' (A : Option Addr) (n c : Nat) (w : World) : Calls Tryz.prog 48 #[.pointer none, .slice A n c] w fun e w' => e = .returned (.bool false) ∧ w = w' := (Has_nil A n c w).mono fun e w' h => ⟨h.1, h.2.symm⟩
theorem Rules_lit {H : Nat} {w : World} {bd : Nat} {D : DataV} {T : List Rec} (hD : DataAt H w bd D T) (hG : Good T) (g : Nat) (n : Nat) (x : List Int) (w0 : World) (hn : x.length = n) (r : Int) (hr : rulesF (bdF T) x = r) (hwf : ∀ z ∈ x, (Lit.int .i32 z).wf = true) (hl : n ≤ 100) (hg : w0.heap.size = g) (hw : w = w0.alloc (.cells (x.map (Value.int .i32)).toArray 21)) :
    Calls Tryz.prog 47 #[.pointer (some ⟨bd, 0, none⟩), .slice (some ⟨g, 0, none⟩) n n] w fun e w' => e = .returned (.int .i64 r) ∧ Up w w' := by
  subst hn
  subst hg
  subst hw
  exact Rules_calls hD hG _ _ x (ints_new w0 x) (by omega) hwf r hr
theorem Has_lit {H : Nat} {w : World} {bd : Nat} {D : DataV} {T : List Rec} (hD : DataAt H w bd D T) (hG : Good T) (g : Nat) (n : Nat) (x : List Int) (w0 : World) (hn : x.length = n) (r : Bool) (hr : hasF (bdF T) x = r) (hwf : ∀ z ∈ x, (Lit.int .i32 z).wf = true) (hl : n ≤ 100) (hg : w0.heap.size = g) (hw : w = w0.alloc (.cells (x.map (Value.int .i32)).toArray 21)) :
    Calls Tryz.prog 48 #[.pointer (some ⟨bd, 0, none⟩), .slice (some ⟨g, 0, none⟩) n n] w fun e w' => e = .returned (.bool r) ∧ Up w w' := by
  subst hn
  subst hg
  subst hw
  exact Has_calls hD hG _ _ x (ints_new w0 x) (by omega) hwf r hr
def b1 : List Int := [1488, 97]
theorem b1_wf : ∀ z ∈ b1, (Lit.int .i32 z).wf = true := by decide
theorem b1_box (W : World) : W.alloc (.cells #[.int .i32 1488, .int .i32 97] 21) = W.alloc (.cells (b1.map (Value.int .i32)).toArray 21) := rfl
theorem b1_len : b1.length = 2 := rfl
def b2 : List Int := [1488, 49, 768]
theorem b2_wf : ∀ z ∈ b2, (Lit.int .i32 z).wf = true := by decide
theorem b2_box (W : World) : W.alloc (.cells #[.int .i32 1488, .int .i32 49, .int .i32 768] 21) = W.alloc (.cells (b2.map (Value.int .i32)).toArray 21) := rfl
theorem b2_len : b2.length = 3 := rfl
def b3 : List Int := [49]
theorem b3_wf : ∀ z ∈ b3, (Lit.int .i32 z).wf = true := by decide
theorem b3_box (W : World) : W.alloc (.cells #[.int .i32 49] 21) = W.alloc (.cells (b3.map (Value.int .i32)).toArray 21) := rfl
theorem b3_len : b3.length = 1 := rfl
def b4 : List Int := [97, 1488]
theorem b4_wf : ∀ z ∈ b4, (Lit.int .i32 z).wf = true := by decide
theorem b4_box (W : World) : W.alloc (.cells #[.int .i32 97, .int .i32 1488] 21) = W.alloc (.cells (b4.map (Value.int .i32)).toArray 21) := rfl
theorem b4_len : b4.length = 2 := rfl
theorem b1_said : rulesF (bdF hebrT) b1 = 6 := by decide
theorem b2_said : rulesF (bdF hebrT) b2 = 0 := by decide
theorem b3_said : rulesF (bdF hebrT) b3 = 1 := by decide
theorem b4_said : hasF (bdF hebrT) b4 = true := by decide
theorem told17_calls (w : World) : Calls Tryz.prog 45 #[] w fun e w' => e = .returned (.bool true) ∧ Up w w' := by
  go_enter Tryz.func45, Tryz.ntmps45
  go_wp2_with (first | (go_at_call 47; (with_reducible refine (Rules_nil _ _ _ _).mono ?_); rintro e w8 ⟨rfl, rfl⟩) | (go_at_call 48; (with_reducible refine (Has_nil' _ _ _ _).mono ?_); rintro e w7 ⟨rfl, rfl⟩) | (go_at_call 48; (with_reducible refine (Has_lit (HD.out.up (up_alloc HV5.out _)) hebrT_good _ 2 b4 w5 b4_len true b4_said b4_wf (by decide) rfl (b4_box _)).mono ?_); rintro e w6 ⟨rfl, hup6⟩; have HV6 := Aside0.mk (up_trans (up_alloc HV5.out _) hup6); clear hup6) | (go_at_call 47; (with_reducible refine (Rules_lit (HD.out.up (up_alloc HV4.out _)) hebrT_good _ 1 b3 w4 b3_len 1 b3_said b3_wf (by decide) rfl (b3_box _)).mono ?_); rintro e w5 ⟨rfl, hup5⟩; have HV5 := Aside0.mk (up_trans (up_alloc HV4.out _) hup5); clear hup5) | (go_at_call 47; (with_reducible refine (Rules_lit (HD.out.up (up_alloc HV3.out _)) hebrT_good _ 3 b2 w3 b2_len 0 b2_said b2_wf (by decide) rfl (b2_box _)).mono ?_); rintro e w4 ⟨rfl, hup4⟩; have HV4 := Aside0.mk (up_trans (up_alloc HV3.out _) hup4); clear hup4) | (go_at_call 47; (with_reducible refine (Rules_lit (HD.out.up (up_alloc HV2.out _)) hebrT_good _ 2 b1 w2 b1_len 6 b1_said b1_wf (by decide) rfl (b1_box _)).mono ?_); rintro e w3 ⟨rfl, hup3⟩; have HV3 := Aside0.mk (up_trans (up_alloc HV2.out _) hup3); clear hup3) | (go_at_call 20; (with_reducible refine (Made_fine A1 n1 hebrT 13 _ HT1.out.table hebrT_wf HT1.out.len rfl (by decide) hebrT_fine).mono ?_); rintro e w2 ⟨bd, D, A2, n2, rfl, hD, _, hup2⟩; have HD := Aside0.mk hD; have HU2 := Aside0.mk (up_trans HU1.out hup2); have HV2 := Aside0.mk (up_refl w2); clear hD hup2) | (go_at_call 99; (with_reducible refine (hebrT_calls _).mono ?_); rintro e w1 ⟨A1, n1, rfl, hT1, hup1⟩; have HT1 := Aside0.mk hT1; have HU1 := Aside0.mk hup1; clear hT1 hup1))
  go_ret
  exact ⟨rfl, up_trans HU2.out (up_alloc (up_alloc HV6.out _) _)⟩
theorem ints_take17 {k : IntKind} {w : World} {A : Option Addr} {l : List Int} (h : Ints k w A l) (n : Nat) : Ints k w A (l.take n) := fun i v hv => by
  rw [List.getElem?_map, List.getElem?_take] at hv
  split at hv
  · exact h i v (by rw [List.getElem?_map]; exact hv)
  · cases hv
theorem few17_calls (A : Option Addr) (c : Nat) (x y : List Int) (n : Nat) (w : World) (hI : Ints .i32 w A x) (hx : x.length < 4611686018427387904) (hc : x.length ≤ c) (hn : n ≤ 100) (hy : x.take n = y) :
    Calls Tryz.prog 46 #[.slice A x.length c, .int .i64 n] w (RetRow y w) := by
  have hyl : y.length = min n x.length := by rw [← hy, List.length_take]
  have hmn : min (x.length : Int) (n : Int) = (y.length : Int) := by omega
  have h1 : 0 ≤ (y.length : Int) := by omega
  have h2 : (y.length : Int) ≤ (c : Int) := by omega
  have HY : Aside0 (Ints .i32 w A y) := ⟨by rw [← hy]; exact ints_take17 hI n⟩
  have HLEN : Aside0 (0 + y.length ≤ maxLen ∧ (0 + y.length) * 4 ≤ 140737488355328) := ⟨by unfold maxLen; omega⟩
  obtain ⟨ie, ze, hie, hze, hsi, hby, hzc⟩ := i32_info
  clear hI hy hyl hc
  go_enter Tryz.func46, Tryz.ntmps46
  go_wp2_with (first | (at_builtin; refine (wpList_append_row _ rfl _ _ 23 rfl w.heap.size 21 ie ze 1 4 Tryz.underlying23 hie hze hsi hby hzc (by decide) _ 0 [] rfl (World.ownsRow_nil _ _ _ _) A y.length c (y.map (Value.int .i32)) rfl (by simp) ?ha (ints_one _ _) ?hb ?hc ?hd ?_); (case ha => exact HY.out); (case hb => exact HLEN.out.1); (case hc => exact HLEN.out.2); (case hd => exact Nat.le_refl _); intro v' w3 hown' hgrow hat'))
  go_ret
  rw [Nat.zero_add, List.nil_append] at hown'
  exact ⟨_, rfl, hown', up_nil hgrow rfl⟩
theorem few17_at (A : Option Addr) (c : Nat) (x y : List Int) (n : Int) (m : Nat) (hm : n = (m : Int)) (w : World) (hI : Ints .i32 w A x) (hx : x.length < 4611686018427387904) (hc : x.length ≤ c) (hn : m ≤ 100) (hy : x.take m = y) :
    Calls Tryz.prog 46 #[.slice A x.length c, .int .i64 n] w (RetRow y w) := by
  subst hm
  exact few17_calls A c x y m w hI hx hc hn hy
end Go.Proofs.YthneeainigdmhaaGreat.M
