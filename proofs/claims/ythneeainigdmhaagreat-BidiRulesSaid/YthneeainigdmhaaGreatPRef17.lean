/- The document's 17: Has, among, walked. -/
import Derived.Test.YthneeainigdmhaaGreatPBidi0
import Derived.Test.YthneeainigdmhaaGreatK37
set_option linter.unusedVariables false
set_option linter.unusedSimpArgs false
namespace Go.Proofs.YthneeainigdmhaaGreat.M
open Go.RowKit
set_option maxHeartbeats 8000000
set_option maxRecDepth 100000

theorem RHas_calls (At : Option Addr) (ct : Nat) (T : List Rec) (A : Option Addr) (c : Nat) (x : List Int) (w : World) (hT : Table w At T) (hR : ∀ x ∈ T, Right x) (hW : ∀ x ∈ T, x.Wf) (hl : T.length ≤ 4096) (hI : Ints .i32 w A x) (hx : x.length < 4611686018427387904) (hwf : ∀ z ∈ x, (Lit.int .i32 z).wf = true) (b : Bool) (hb : hasF (bdF T) x = b) :
    Calls Tryz.prog 55 #[.slice At T.length ct, .slice A x.length c] w fun e w' => e = .returned (.bool b) ∧ Up w w' := by
  have HT := Aside0.mk hT
  have HRT := Aside0.mk hR
  have HW := Aside0.mk hW
  have HTL := Aside0.mk hl
  have HI := Aside0.mk hI
  have HX := Aside0.mk hx
  have HWF := Aside0.mk hwf
  have HR := Aside0.mk hb
  clear hT hR hW hl hI hx hwf hb
  go_enter Tryz.func55, Tryz.ntmps55
  go_wp2
  go_loopg [5, 6] x.length (fun k v5 v6 w' => ∃ i : Nat, v5 = .int .i64 i ∧ Aside0 (i + k = x.length ∧ hasF (bdF T) (x.drop i) = b) ∧ Aside0 (Up w w'))
  case atStart => exact ⟨0, rfl, ⟨Nat.zero_add _, HR.out⟩, ⟨up_refl _⟩⟩
  case round =>
    obtain ⟨i, rfl, HN, HB⟩ := hrel
    cases gk with
    | zero =>
      have hlt : decide ((i : Int) < (x.length : Int)) = false := decide_eq_false (by have := HN.out; omega)
      have hlt1 : ¬ (i < x.length) := by have := HN.out; omega
      have hr := HN.out.2
      rw [List.drop_of_length_le (by omega)] at hr
      have hr : false = b := hr
      subst hr
      go_wp2
      go_ret
      exact ⟨rfl, HB.out⟩
    | succ k =>
      have hlt : decide ((i : Int) < (x.length : Int)) = true := decide_eq_true (by have := HN.out; omega)
      have hlt1 : i < x.length := by have := HN.out; omega
      have hxl : x.length < 4611686018427387904 := HX.out
      have h7 : 0 ≤ (i : Int) := by omega
      have h9 : (i : Int) < (x.length : Int) := by omega
      have hr := HN.out.2
      rw [has_step _ _ _ hlt1] at hr
      obtain ⟨ad, hA, hc⟩ := HI.out.at_ i h7 h9
      rw [Int.toNat_natCast] at hc
      replace hc := up_cell HB.out hc
      subst hA
      have HAR : Aside0 (-2147483648 ≤ rd x i ∧ rd x i ≤ 2147483647) := ⟨rd_wf HWF.out i⟩
      obtain ⟨a, ha⟩ : ∃ a, rd x i = a := ⟨_, rfl⟩
      rw [ha] at hc hr HAR
      obtain ⟨y, hy⟩ : ∃ y, bdF T a = y := ⟨_, rfl⟩
      have HY := Aside0.mk hy
      rw [hy] at hr
      have HR2 := Aside0.mk hr
      clear hr hy ha
      cases e1 : (y == 1) <;> cases e2 : (y == 2) <;> cases e3 : (y == 3)
      case false.false.false =>
        have HR3 : Aside0 (hasF (bdF T) (x.drop (i + 1)) = b) := ⟨by have := HR2.out; unfold rtl at this; rw [e1, e2, e3] at this; simpa using this⟩
        go_wp2_with (first | (go_at_call 35; (with_reducible refine (TBidi_calls At ct T a _ (HT.out.up HB.out) HRT.out HW.out HTL.out HAR.out.1 HAR.out.2 y HY.out).mono ?_); rintro e w1 ⟨rfl, hup1⟩; have HU1 := Aside0.mk hup1; clear hup1))
        go_roundg k
        case measure => have := HN.out; omega
        case rel => exact ⟨i + 1, rfl, ⟨by have := HN.out; omega, HR3.out⟩, ⟨up_trans HB.out HU1.out⟩⟩
      all_goals
        have hr3 : true = b := by have := HR2.out; unfold rtl at this; rw [e1, e2, e3] at this; simpa using this
        subst hr3
        go_wp2_with (first | (go_at_call 35; (with_reducible refine (TBidi_calls At ct T a _ (HT.out.up HB.out) HRT.out HW.out HTL.out HAR.out.1 HAR.out.2 y HY.out).mono ?_); rintro e w1 ⟨rfl, hup1⟩; have HU1 := Aside0.mk hup1; clear hup1))
        go_ret
        exact ⟨rfl, up_trans HB.out HU1.out⟩
/-- Is n one of them? -/
def amongB (n : Int) (l : List Int) : Bool := l.any fun a => a == n
theorem among_step (n : Int) (x : List Int) (i : Nat) (h : i < x.length) : amongB n (x.drop i) = ((rd x i == n) || amongB n (x.drop (i + 1))) := by
  unfold amongB
  rw [List.drop_eq_getElem_cons h, List.any_cons, rd_elem x i h]
theorem among_calls (n : Int) (A : Option Addr) (c : Nat) (x : List Int) (w : World) (hI : Ints .i64 w A x) (hx : x.length < 4611686018427387904) (b : Bool) (hb : amongB n x = b) :
    Calls Tryz.prog 105 #[.int .i64 n, .slice A x.length c] w fun e w' => e = .returned (.bool b) ∧ Up w w' := by
  have HI := Aside0.mk hI
  have HX := Aside0.mk hx
  have HR := Aside0.mk hb
  clear hI hx hb
  go_enter Tryz.func105, Tryz.ntmps105
  go_wp2
  go_loopg [5] x.length (fun k v5 w' => ∃ i : Nat, v5 = .int .i64 i ∧ Aside0 (i + k = x.length ∧ amongB n (x.drop i) = b) ∧ Aside0 (Up w w'))
  case atStart => exact ⟨0, rfl, ⟨Nat.zero_add _, HR.out⟩, ⟨up_refl _⟩⟩
  case round =>
    obtain ⟨i, rfl, HN, HB⟩ := hrel
    cases gk with
    | zero =>
      have hlt : decide ((i : Int) < (x.length : Int)) = false := decide_eq_false (by have := HN.out; omega)
      have hlt1 : ¬ (i < x.length) := by have := HN.out; omega
      have hr := HN.out.2
      rw [List.drop_of_length_le (by omega)] at hr
      have hr : false = b := hr
      subst hr
      go_wp2
      go_ret
      exact ⟨rfl, HB.out⟩
    | succ k =>
      have hlt : decide ((i : Int) < (x.length : Int)) = true := decide_eq_true (by have := HN.out; omega)
      have hlt1 : i < x.length := by have := HN.out; omega
      have hxl : x.length < 4611686018427387904 := HX.out
      have h7 : 0 ≤ (i : Int) := by omega
      have h9 : (i : Int) < (x.length : Int) := by omega
      have hr := HN.out.2
      rw [among_step _ _ _ hlt1] at hr
      obtain ⟨ad, hA, hc⟩ := HI.out.at_ i h7 h9
      rw [Int.toNat_natCast] at hc
      replace hc := up_cell HB.out hc
      subst hA
      obtain ⟨a, ha⟩ : ∃ a, rd x i = a := ⟨_, rfl⟩
      rw [ha] at hc hr
      have HR2 := Aside0.mk hr
      clear hr ha
      cases e1 : (a == n)
      · have HR3 : Aside0 (amongB n (x.drop (i + 1)) = b) := ⟨by have := HR2.out; rw [e1] at this; simpa using this⟩
        go_wp2
        go_roundg k
        case measure => have := HN.out; omega
        case rel => exact ⟨i + 1, rfl, ⟨by have := HN.out; omega, HR3.out⟩, ⟨HB.out⟩⟩
      · have hr3 : true = b := by have := HR2.out; rw [e1] at this; simpa using this
        subst hr3
        go_wp2
        go_ret
        exact ⟨rfl, HB.out⟩
theorem ints64_new (w : World) (l : List Int) (t : TypeId) : Ints .i64 (w.alloc (.cells (l.map (Value.int .i64)).toArray t)) (some ⟨w.heap.size, 0, none⟩) l := fun i u hu =>
  ⟨⟨w.heap.size, 0, none⟩, rfl, by
    rw [show (⟨w.heap.size, 0, none⟩ : Addr).add i = ⟨w.heap.size, i, none⟩ by unfold Addr.add; split <;> simp_all]
    rw [cell_of_row _ _ i _ _ (0, 0) (heap_alloc_new w _)]
    simpa using hu⟩
theorem among_lit (n : Int) (g m : Nat) (x : List Int) (w w0 : World) (cs : Array Value) (hcs : cs = (x.map (Value.int .i64)).toArray) (hn : x.length = m) (hl : m ≤ 100) (b : Bool) (hb : amongB n x = b) (hg : w0.heap.size = g) (hw : w = w0.alloc (.cells cs 3)) :
    Calls Tryz.prog 105 #[.int .i64 n, .slice (some ⟨g, 0, none⟩) m m] w fun e w' => e = .returned (.bool b) ∧ Up w w' := by
  subst hn
  subst hg
  subst hcs
  subst hw
  exact among_calls n _ _ x _ (ints64_new _ _ _) (by omega) b hb
end Go.Proofs.YthneeainigdmhaaGreat.M
