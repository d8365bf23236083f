/- endonymlaw15.few and the document's Settled, walked. (printed by mkset15.py) -/
import Derived.Test.YthneeainigdmhaaGreatPRMap15
import Derived.Test.YthneeainigdmhaaGreatPEqual
set_option linter.unusedVariables false
set_option linter.unusedSimpArgs false
namespace Go.Proofs.YthneeainigdmhaaGreat.M
open Go.RowKit
set_option maxHeartbeats 8000000
set_option maxRecDepth 100000
attribute [local go_sem] max_two_int min_two_int

theorem ints_take15 {k : IntKind} {w : World} {A : Option Addr} {l : List Int} (h : Ints k w A l) (n : Nat) : Ints k w A (l.take n) := fun i v hv => by
  rw [List.getElem?_map, List.getElem?_take] at hv
  split at hv
  · exact h i v (by rw [List.getElem?_map]; exact hv)
  · cases hv
theorem few15_calls (A : Option Addr) (c : Nat) (x y : List Int) (n : Nat) (w : World) (hI : Ints .i32 w A x) (hx : x.length < 4611686018427387904) (hc : x.length ≤ c) (hn : n ≤ 100000) (hy : x.take n = y) :
    Calls Tryz.prog 62 #[.slice A x.length c, .int .i64 n] w (RetRow y w) := by
  have hyl : y.length = min n x.length := by rw [← hy, List.length_take]
  have hmn : min (x.length : Int) (n : Int) = (y.length : Int) := by omega
  have h1 : 0 ≤ (y.length : Int) := by omega
  have h2 : (y.length : Int) ≤ (c : Int) := by omega
  have HY : Aside0 (Ints .i32 w A y) := ⟨by rw [← hy]; exact ints_take15 hI n⟩
  have HLEN : Aside0 (0 + y.length ≤ maxLen ∧ (0 + y.length) * 4 ≤ 140737488355328) := ⟨by unfold maxLen; omega⟩
  obtain ⟨ie, ze, hie, hze, hsi, hby, hzc⟩ := i32_info
  clear hI hy hyl hc
  go_enter Tryz.func62, Tryz.ntmps62
  go_wp2_with (first | (at_builtin; refine (wpList_append_row _ rfl _ _ 23 rfl w.heap.size 21 ie ze 1 4 Tryz.underlying23 hie hze hsi hby hzc (by decide) _ 0 [] rfl (World.ownsRow_nil _ _ _ _) A y.length c (y.map (Value.int .i32)) rfl (by simp) ?ha (ints_one _ _) ?hb ?hc ?hd ?_); (case ha => exact HY.out); (case hb => exact HLEN.out.1); (case hc => exact HLEN.out.2); (case hd => exact Nat.le_refl _); intro v' w3 hown' hgrow hat'))
  go_ret
  rw [Nat.zero_add, List.nil_append] at hown'
  exact ⟨_, rfl, hown', up_nil hgrow rfl⟩
theorem few15_at (A : Option Addr) (c : Nat) (x y : List Int) (n : Int) (m : Nat) (hm : n = (m : Int)) (w : World) (hI : Ints .i32 w A x) (hx : x.length < 4611686018427387904) (hc : x.length ≤ c) (hn : m ≤ 100000) (hy : x.take m = y) :
    Calls Tryz.prog 62 #[.slice A x.length c, .int .i64 n] w (RetRow y w) := by
  subst hm
  exact few15_calls A c x y m w hI hx hc hn hy
theorem RSet15_calls (At : Option Addr) (ct : Nat) (T : List Rec) (A : Option Addr) (c : Nat) (x : List Int) (fl : Int) (w : World) (hT : Table w At T) (hR : ∀ x ∈ T, Right x) (hW : ∀ x ∈ T, x.Wf) (hl : T.length ≤ 4096) (hI : Ints .i32 w A x) (hx : x.length ≤ 100000) (hwf : ∀ z ∈ x, (Lit.int .i32 z).wf = true) (r : List Int) (hr : mapsF T fl x = r) (hrl : r.length ≤ 65536) (b : Bool) (hb : (x == r) = b) :
    Calls Tryz.prog 66 #[.slice At T.length ct, .slice A x.length c, .int .i64 fl] w fun e w' => e = .returned (.bool b) ∧ Up w w' := by
  have HC := Aside0.mk (RMap15_calls At ct T A c x fl w hT hR hW hl hI (by omega) hwf r hr hrl)
  have HI := Aside0.mk hI
  have HX := Aside0.mk hx
  have HRL := Aside0.mk hrl
  have HB := Aside0.mk hb
  clear hT hR hW hl hI hx hwf hr hrl hb
  go_enter Tryz.func66, Tryz.ntmps66
  go_wp2_with (first | (go_at_call 64; (with_reducible refine HC.out.mono ?_); rintro e w1 ⟨v1, rfl, hown1, hup1⟩; obtain ⟨A1, c1, rfl, hi1, _⟩ := own_ints hown1; have HU1 := Aside0.mk hup1; have HI1 := Aside0.mk hi1; clear hown1 hup1 hi1) | (go_at_call 30; (with_reducible refine (SameB_calls A A1 c c1 x r _ (HI.out.up HU1.out) HI1.out (Nat.le_trans HX.out (by decide)) (Nat.le_trans HRL.out (by decide)) b HB.out).mono ?_); rintro e w2 ⟨rfl, hup2⟩))
  go_ret
  exact ⟨rfl, up_trans HU1.out hup2⟩
end Go.Proofs.YthneeainigdmhaaGreat.M
