/- bidi.Domain and the document's: rows of rows of numbers, walked. -/
import Derived.Test.YthneeainigdmhaaGreatPRef17
set_option linter.unusedVariables false
set_option linter.unusedSimpArgs false
namespace Go.Proofs.YthneeainigdmhaaGreat.M
open Go.RowKit
set_option maxHeartbeats 8000000
set_option maxRecDepth 100000

/-- Rows of numbers in memory. -/
def MatAt (w : World) (A : Option Addr) (M : List (List Int)) : Prop :=
  ∀ (i : Nat) (r : List Int), M[i]? = some r → ∃ ad Ar cr, A = some ad ∧ w.cell? (ad.add i) = some (.slice Ar r.length cr) ∧ Ints .i32 w Ar r ∧ r.length ≤ cr ∧ r.length < 4611686018427387904 ∧ ∀ z ∈ r, (Lit.int .i32 z).wf = true
theorem MatAt.up {w w' : World} {A : Option Addr} {M : List (List Int)} (h : MatAt w A M) (hu : Up w w') : MatAt w' A M := fun i r hr => by
  obtain ⟨ad, Ar, cr, h1, h2, h3, h4⟩ := h i r hr
  exact ⟨ad, Ar, cr, h1, up_cell hu h2, h3.up hu, h4⟩
def hasM (B : Int → Int) (M : List (List Int)) : Bool := M.any (hasF B)
theorem hasM_step (B : Int → Int) (M : List (List Int)) (i : Nat) (h : i < M.length) : hasM B (M.drop i) = (hasF B M[i] || hasM B (M.drop (i + 1))) := by
  unfold hasM
  rw [List.drop_eq_getElem_cons h, List.any_cons]
section
variable {H : Nat} {w : World} {bd : Nat} {D : DataV} {T : List Rec}
theorem Domain_calls (hD : DataAt H w bd D T) (hG : Good T) (A : Option Addr) (c : Nat) (M : List (List Int)) (hI : MatAt w A M) (hx : M.length < 4611686018427387904) (b : Bool) (hb : hasM (bdF T) M = b) :
    Calls Tryz.prog 57 #[.pointer (some ⟨bd, 0, none⟩), .slice A M.length c] w fun e w' => e = .returned (.bool b) ∧ Up w w' := by
  have HD := Aside0.mk hD
  have HG := Aside0.mk hG
  have HI := Aside0.mk hI
  have HX := Aside0.mk hx
  have HR := Aside0.mk hb
  clear hD hG hI hx hb
  go_enter Tryz.func57, Tryz.ntmps57
  go_wp2
  go_loopg [6, 9] M.length (fun k v6 v9 w' => ∃ i : Nat, v9 = .int .i64 i ∧ Aside0 (i + k = M.length ∧ hasM (bdF T) (M.drop i) = b) ∧ Aside0 (Up w w'))
  case atStart => exact ⟨0, rfl, ⟨Nat.zero_add _, HR.out⟩, ⟨up_refl _⟩⟩
  case round =>
    obtain ⟨i, rfl, HN, HB⟩ := hrel
    cases gk with
    | zero =>
      have hlt : decide ((i : Int) < (M.length : Int)) = false := decide_eq_false (by have := HN.out; omega)
      have hlt1 : ¬ (i < M.length) := by have := HN.out; omega
      have hr := HN.out.2
      rw [List.drop_of_length_le (by omega)] at hr
      have hr : false = b := hr
      subst hr
      go_wp2
      go_ret
      exact ⟨rfl, HB.out⟩
    | succ k =>
      have hlt : decide ((i : Int) < (M.length : Int)) = true := decide_eq_true (by have := HN.out; omega)
      have hlt1 : i < M.length := by have := HN.out; omega
      have hxl : M.length < 4611686018427387904 := HX.out
      have h7 : 0 ≤ (i : Int) := by omega
      have h9 : (i : Int) < (M.length : Int) := by omega
      have hr := HN.out.2
      rw [hasM_step _ _ _ hlt1] at hr
      obtain ⟨x, hxx⟩ : ∃ x, M[i] = x := ⟨_, rfl⟩
      obtain ⟨ad, Ar, cr, hA, hc, hIx, hxc, hxl2, hwf⟩ := HI.out i x (by rw [List.getElem?_eq_getElem hlt1, hxx])
      rw [hxx] at hr
      replace hc := up_cell HB.out hc
      subst hA
      have HIx := Aside0.mk (hIx.up HB.out)
      have HXL := Aside0.mk hxl2
      have HWF := Aside0.mk hwf
      obtain ⟨y, hy⟩ : ∃ y, hasF (bdF T) x = y := ⟨_, rfl⟩
      have HY := Aside0.mk hy
      rw [hy] at hr
      have HR2 := Aside0.mk hr
      clear hr hy hIx hwf hxl2 hxx hxc
      cases y
      · have HR3 : Aside0 (hasM (bdF T) (M.drop (i + 1)) = b) := ⟨by have := HR2.out; simpa using this⟩
        go_wp2_with (first | (go_at_call 48; (with_reducible refine (Has_calls (HD.out.up HB.out) HG.out Ar cr x HIx.out HXL.out HWF.out _ HY.out).mono ?_); rintro e w1 ⟨rfl, hup1⟩; have HU1 := Aside0.mk hup1; clear hup1))
        go_roundg k
        case measure => have := HN.out; omega
        case rel => exact ⟨i + 1, rfl, ⟨by have := HN.out; omega, HR3.out⟩, ⟨up_trans HB.out HU1.out⟩⟩
      · have hr3 : true = b := by have := HR2.out; simpa using this
        subst hr3
        go_wp2_with (first | (go_at_call 48; (with_reducible refine (Has_calls (HD.out.up HB.out) HG.out Ar cr x HIx.out HXL.out HWF.out _ HY.out).mono ?_); rintro e w1 ⟨rfl, hup1⟩; have HU1 := Aside0.mk hup1; clear hup1))
        go_ret
        exact ⟨rfl, up_trans HB.out HU1.out⟩
end
theorem Domain_nil (A : Option Addr) (c : Nat) (M : List (List Int)) (w : World) (hI : MatAt w A M) (hx : M.length < 4611686018427387904) :
    Calls Tryz.prog 57 #[.pointer none, .slice A M.length c] w fun e w' => e = .returned (.bool false) ∧ Up w w' := by
  have HI := Aside0.mk hI
  have HX := Aside0.mk hx
  clear hI hx
  go_enter Tryz.func57, Tryz.ntmps57
  go_wp2
  go_loopg [6, 9] M.length (fun k v6 v9 w' => ∃ i : Nat, v9 = .int .i64 i ∧ Aside0 (i + k = M.length) ∧ Aside0 (Up w w'))
  case atStart => exact ⟨0, rfl, ⟨Nat.zero_add _⟩, ⟨up_refl _⟩⟩
  case round =>
    obtain ⟨i, rfl, HN, HB⟩ := hrel
    cases gk with
    | zero =>
      have hlt : decide ((i : Int) < (M.length : Int)) = false := decide_eq_false (by have := HN.out; omega)
      have hlt1 : ¬ (i < M.length) := by have := HN.out; omega
      go_wp2
      go_ret
      exact ⟨rfl, HB.out⟩
    | succ k =>
      have hlt : decide ((i : Int) < (M.length : Int)) = true := decide_eq_true (by have := HN.out; omega)
      have hlt1 : i < M.length := by have := HN.out; omega
      have hxl : M.length < 4611686018427387904 := HX.out
      have h7 : 0 ≤ (i : Int) := by omega
      have h9 : (i : Int) < (M.length : Int) := by omega
      obtain ⟨x, hxx⟩ : ∃ x, M[i] = x := ⟨_, rfl⟩
      obtain ⟨ad, Ar, cr, hA, hc, _⟩ := HI.out i x (by rw [List.getElem?_eq_getElem hlt1, hxx])
      replace hc := up_cell HB.out hc
      subst hA
      clear hxx
      go_wp2_with (first | (go_at_call 48; (with_reducible refine (Has_nil Ar x.length cr _).mono ?_); rintro e w1 ⟨rfl, hup1⟩; subst hup1))
      go_roundg k
      case measure => have := HN.out; omega
      case rel => exact ⟨i + 1, rfl, ⟨by have := HN.out; omega⟩, HB⟩
theorem RDomain_calls (At : Option Addr) (ct : Nat) (T : List Rec) (A : Option Addr) (c : Nat) (M : List (List Int)) (w : World) (hT : Table w At T) (hR : ∀ x ∈ T, Right x) (hW : ∀ x ∈ T, x.Wf) (hl : T.length ≤ 4096) (hI : MatAt w A M) (hx : M.length < 4611686018427387904) (b : Bool) (hb : hasM (bdF T) M = b) :
    Calls Tryz.prog 58 #[.slice At T.length ct, .slice A M.length c] w fun e w' => e = .returned (.bool b) ∧ Up w w' := by
  have HT := Aside0.mk hT
  have HRT := Aside0.mk hR
  have HW := Aside0.mk hW
  have HTL := Aside0.mk hl
  have HI := Aside0.mk hI
  have HX := Aside0.mk hx
  have HR := Aside0.mk hb
  clear hT hR hW hl hI hx hb
  go_enter Tryz.func58, Tryz.ntmps58
  go_wp2
  go_loopg [5] M.length (fun k v5 w' => ∃ i : Nat, v5 = .int .i64 i ∧ Aside0 (i + k = M.length ∧ hasM (bdF T) (M.drop i) = b) ∧ Aside0 (Up w w'))
  case atStart => exact ⟨0, rfl, ⟨Nat.zero_add _, HR.out⟩, ⟨up_refl _⟩⟩
  case round =>
    obtain ⟨i, rfl, HN, HB⟩ := hrel
    cases gk with
    | zero =>
      have hlt : decide ((i : Int) < (M.length : Int)) = false := decide_eq_false (by have := HN.out; omega)
      have hlt1 : ¬ (i < M.length) := by have := HN.out; omega
      have hr := HN.out.2
      rw [List.drop_of_length_le (by omega)] at hr
      have hr : false = b := hr
      subst hr
      go_wp2
      go_ret
      exact ⟨rfl, HB.out⟩
    | succ k =>
      have hlt : decide ((i : Int) < (M.length : Int)) = true := decide_eq_true (by have := HN.out; omega)
      have hlt1 : i < M.length := by have := HN.out; omega
      have hxl : M.length < 4611686018427387904 := HX.out
      have h7 : 0 ≤ (i : Int) := by omega
      have h9 : (i : Int) < (M.length : Int) := by omega
      have hr := HN.out.2
      rw [hasM_step _ _ _ hlt1] at hr
      obtain ⟨x, hxx⟩ : ∃ x, M[i] = x := ⟨_, rfl⟩
      obtain ⟨ad, Ar, cr, hA, hc, hIx, hxc, hxl2, hwf⟩ := HI.out i x (by rw [List.getElem?_eq_getElem hlt1, hxx])
      rw [hxx] at hr
      replace hc := up_cell HB.out hc
      subst hA
      have HIx := Aside0.mk (hIx.up HB.out)
      have HXL := Aside0.mk hxl2
      have HWF := Aside0.mk hwf
      obtain ⟨y, hy⟩ : ∃ y, hasF (bdF T) x = y := ⟨_, rfl⟩
      have HY := Aside0.mk hy
      rw [hy] at hr
      have HR2 := Aside0.mk hr
      clear hr hy hIx hwf hxl2 hxx hxc
      cases y
      · have HR3 : Aside0 (hasM (bdF T) (M.drop (i + 1)) = b) := ⟨by have := HR2.out; simpa using this⟩
        go_wp2_with (first | (go_at_call 55; (with_reducible refine (RHas_calls At ct T Ar cr x _ (HT.out.up HB.out) HRT.out HW.out HTL.out HIx.out HXL.out HWF.out _ HY.out).mono ?_); rintro e w1 ⟨rfl, hup1⟩; have HU1 := Aside0.mk hup1; clear hup1))
        go_roundg k
        case measure => have := HN.out; omega
        case rel => exact ⟨i + 1, rfl, ⟨by have := HN.out; omega, HR3.out⟩, ⟨up_trans HB.out HU1.out⟩⟩
      · have hr3 : true = b := by have := HR2.out; simpa using this
        subst hr3
        go_wp2_with (first | (go_at_call 55; (with_reducible refine (RHas_calls At ct T Ar cr x _ (HT.out.up HB.out) HRT.out HW.out HTL.out HIx.out HXL.out HWF.out _ HY.out).mono ?_); rintro e w1 ⟨rfl, hup1⟩; have HU1 := Aside0.mk hup1; clear hup1))
        go_ret
        exact ⟨rfl, up_trans HB.out HU1.out⟩
end Go.Proofs.YthneeainigdmhaaGreat.M
