/- Joiners: the program, walked. -/
import Derived.Test.YthneeainigdmhaaGreatK36
import Derived.Test.YthneeainigdmhaaGreatPJoin0
import Derived.WalkMore
set_option linter.unusedVariables false
set_option linter.unusedSimpArgs false
namespace Go.Proofs.YthneeainigdmhaaGreat.M
open Go.RowKit
set_option maxHeartbeats 8000000
set_option maxRecDepth 100000

abbrev jnF (T : List Rec) : Int → Int := numF T 5 (·.n)
abbrev clF (T : List Rec) : Int → Int := numF T 2 (·.n)
theorem wf_i32 {n : Int} (h : (Lit.int .i32 n).wf = true) : -2147483648 ≤ n ∧ n ≤ 2147483647 := by
  simp [Lit.wf, IntKind.min, IntKind.max, IntKind.signed, IntKind.bits] at h
  omega
theorem rd_wf {l : List Int} (h : ∀ z ∈ l, (Lit.int .i32 z).wf = true) (i : Int) : -2147483648 ≤ rd l i ∧ rd l i ≤ 2147483647 := by
  unfold rd
  cases hx : l[i.toNat]? with
  | none => rw [List.getD, hx]; exact ⟨by decide, by decide⟩
  | some v => rw [List.getD, hx]; exact wf_i32 (h v (List.mem_of_getElem? hx))
theorem next_calls {H : Nat} {w : World} {bd : Nat} {D : DataV} {T : List Rec} (hD : DataAt H w bd D T) (hG : Good T) (A : Option Addr) (c : Nat) (x : List Int) (i st want : Int) (L : List Int)
    (hI : Ints .i32 w A x) (hx : x.length < 4611686018427387904) (hwf : ∀ z ∈ x, (Lit.int .i32 z).wf = true) (h0 : 0 ≤ i) (hi : i < x.length) (hst : st = 1 ∨ st = -1) (hway : Way x st (i + st) L) (b : Bool) (hb : (firstV (jnF T) L == want || firstV (jnF T) L == 3) = b) :
    Calls Tryz.prog 90 #[.pointer (some ⟨bd, 0, none⟩), .slice A x.length c, .int .i64 i, .int .i64 st, .int .i64 want] w fun e w' => e = .returned (.bool b) ∧ Up w w' := by
  have HD := Aside0.mk hD
  have HG := Aside0.mk hG
  have HI := Aside0.mk hI
  have HX := Aside0.mk hx
  have HWF := Aside0.mk hwf
  have HST := Aside0.mk hst
  have HW := Aside0.mk hway
  have HB0 := Aside0.mk hb
  have hw0 : wrap64 (i + st) = i + st := by unfold wrap64; omega
  have HR : Aside0 (-1 ≤ i + st ∧ i + st ≤ x.length) := ⟨by omega⟩
  obtain ⟨k0, hk0⟩ : ∃ k0, i + st = k0 := ⟨_, rfl⟩
  rw [hk0] at HW HR hw0
  clear hD hG hI hx hwf hst hway hb
  go_enter Tryz.func90, Tryz.ntmps90
  go_wp2
  go_step3
  go_wp2
  go_step3
  go_wp2
  simp only [hw0]
  go_loopg [11, 12] L.length (fun k v11 v12 w' => ∃ (M : List Int) (kk : Int), v11 = .int .i64 5 ∧ v12 = .int .i64 kk ∧ Aside0 (M.length = k ∧ Way x st kk M ∧ firstV (jnF T) M = firstV (jnF T) L ∧ -1 ≤ kk ∧ kk ≤ x.length) ∧ Aside0 (Up w w'))
  case atStart => exact ⟨L, k0, rfl, rfl, ⟨rfl, HW.out, rfl, HR.out⟩, ⟨up_refl _⟩⟩
  case round =>
    obtain ⟨M, kk, rfl, rfl, HM, HB⟩ := hrel
    cases M with
    | nil =>
      have hk : kk < 0 ∨ (x.length : Int) ≤ kk := HM.out.2.1
      have hf : firstV (jnF T) L = 5 := HM.out.2.2.1.symm
      have hb := HB0.out
      rw [hf] at hb
      have hb : (5 == want) = b := by rw [← hb]; simp
      rcases Int.lt_or_le kk 0 with e1 | e1
      · have e2 : ¬ (0 ≤ kk) := by omega
        clear hk hf
        cases hq : ((5 : Int) == want) with
        | true =>
          rw [hq] at hb
          subst hb
          go_wp2
          (try rw [Exit.noGoto_ret])
          go_ret
          exact ⟨rfl, HB.out⟩
        | false =>
          rw [hq] at hb
          subst hb
          go_wp2
          (try rw [Exit.noGoto_ret])
          go_ret
          exact ⟨rfl, HB.out⟩
      · have e3 : ¬ (kk < (x.length : Int)) := by omega
        clear hk hf
        cases hq : ((5 : Int) == want) with
        | true =>
          rw [hq] at hb
          subst hb
          go_wp2
          (try rw [Exit.noGoto_ret])
          go_ret
          exact ⟨rfl, HB.out⟩
        | false =>
          rw [hq] at hb
          subst hb
          go_wp2
          (try rw [Exit.noGoto_ret])
          go_ret
          exact ⟨rfl, HB.out⟩
    | cons a M =>
      obtain ⟨h1, h2, h3, h4, h5, h6, h7⟩ : (M.length + 1 = gk) ∧ 0 ≤ kk ∧ kk < x.length ∧ rd x kk = a ∧ Way x st (kk + st) M ∧ firstV (jnF T) (a :: M) = firstV (jnF T) L ∧ True := ⟨HM.out.1, HM.out.2.1.1, HM.out.2.1.2.1, HM.out.2.1.2.2.1, HM.out.2.1.2.2.2, HM.out.2.2.1, trivial⟩
      obtain ⟨g, rfl⟩ : ∃ g, gk = g + 1 := ⟨M.length, by omega⟩
      obtain ⟨kn, rfl⟩ := Int.eq_ofNat_of_zero_le h2
      obtain ⟨ad, hA, hc⟩ := HI.out.at_ kn h2 h3
      replace hc := up_cell HB.out hc
      rw [Int.toNat_natCast] at hc
      subst hA
      rw [h4] at hc
      have HAR : Aside0 (-2147483648 ≤ a ∧ a ≤ 2147483647) := ⟨by rw [← h4]; exact rd_wf HWF.out kn⟩
      have hwn : wrap64 ((kn : Int) + st) = (kn : Int) + st := by have := HX.out; have := HST.out; unfold wrap64; omega
      have hL : firstV (jnF T) L = if jnF T a = 5 then firstV (jnF T) M else jnF T a := h6.symm
      have H5 := Aside0.mk h5
      have HN : Aside0 (M.length = g ∧ -1 ≤ (kn : Int) + st ∧ (kn : Int) + st ≤ x.length) := ⟨by have := HST.out; omega⟩
      obtain ⟨y, hy⟩ : ∃ y, jnF T a = y := ⟨_, rfl⟩
      have HY := Aside0.mk hy
      rw [hy] at hL
      clear h1 h5 h6 h7 h4 hy HM
      obtain ⟨⟨a0, a1, a2, a3, a4, a5, a6⟩, _⟩ := (HD.out.up HB.out).all
      have hs0 : wr.drew.cell? ⟨bd, 5, none⟩ = some (.pointer (some ⟨D.b5, 0, none⟩)) ∧ wr.drew.cell? (ad.add kn) = some (.int .i32 a) := ⟨a5, hc⟩
      have HS0 := Aside0.mk hs0
      by_cases hy5 : y = 5
      · rw [if_pos hy5] at hL
        subst hy5
        have HL := Aside0.mk hL
        clear hL
        go_wp2
        go_region_held3 (fun w' => w'.cell? ⟨bd, 5, none⟩ = some (.pointer (some ⟨D.b5, 0, none⟩)) ∧ w'.cell? (ad.add kn) = some (.int .i32 a)) (first | exact hs0 | exact hs1) (first | (go_at_call 36; (with_reducible refine (((HD.out.up HB.out).up (up_drew (up_refl wr))).Join HG.out a 5 HY.out HAR.out.1 HAR.out.2).mono ?_); rintro e w1 ⟨rfl, hup1⟩; have HU1 := Aside0.mk (up_trans (up_drew (up_refl wr)) hup1); have hs1 : w1.cell? ⟨bd, 5, none⟩ = some (.pointer (some ⟨D.b5, 0, none⟩)) ∧ w1.cell? (ad.add kn) = some (.int .i32 a) := ⟨up_cell hup1 HS0.out.1, up_cell hup1 HS0.out.2⟩; clear hup1))
        go_wp2
        go_roundg g
        case measure => have := HN.out; omega
        case rel => exact ⟨M, (kn : Int) + st, rfl, by rw [hwn], ⟨HN.out.1, H5.out, HL.out.symm, HN.out.2⟩, ⟨up_trans HB.out HU1.out⟩⟩
      · rw [if_neg hy5] at hL
        have hb := HB0.out
        rw [hL] at hb
        have d5 : (y == 5) = false := beq_eq_false_iff_ne.mpr hy5
        clear hL hy5
        cases hq : (y == want) with
        | true =>
          rw [hq, Bool.true_or] at hb
          subst hb
          go_wp2
          go_region_held3 (fun w' => w'.cell? ⟨bd, 5, none⟩ = some (.pointer (some ⟨D.b5, 0, none⟩)) ∧ w'.cell? (ad.add kn) = some (.int .i32 a)) (first | exact hs0 | exact hs1) (first | (go_at_call 36; (with_reducible refine (((HD.out.up HB.out).up (up_drew (up_refl wr))).Join HG.out a y HY.out HAR.out.1 HAR.out.2).mono ?_); rintro e w1 ⟨rfl, hup1⟩; have HU1 := Aside0.mk (up_trans (up_drew (up_refl wr)) hup1); have hs1 : w1.cell? ⟨bd, 5, none⟩ = some (.pointer (some ⟨D.b5, 0, none⟩)) ∧ w1.cell? (ad.add kn) = some (.int .i32 a) := ⟨up_cell hup1 HS0.out.1, up_cell hup1 HS0.out.2⟩; clear hup1))
          go_wp2
          (try rw [Exit.noGoto_ret])
          go_ret
          exact ⟨rfl, up_trans HB.out HU1.out⟩
        | false =>
          rw [hq, Bool.false_or] at hb
          subst hb
          go_wp2
          go_region_held3 (fun w' => w'.cell? ⟨bd, 5, none⟩ = some (.pointer (some ⟨D.b5, 0, none⟩)) ∧ w'.cell? (ad.add kn) = some (.int .i32 a)) (first | exact hs0 | exact hs1) (first | (go_at_call 36; (with_reducible refine (((HD.out.up HB.out).up (up_drew (up_refl wr))).Join HG.out a y HY.out HAR.out.1 HAR.out.2).mono ?_); rintro e w1 ⟨rfl, hup1⟩; have HU1 := Aside0.mk (up_trans (up_drew (up_refl wr)) hup1); have hs1 : w1.cell? ⟨bd, 5, none⟩ = some (.pointer (some ⟨D.b5, 0, none⟩)) ∧ w1.cell? (ad.add kn) = some (.int .i32 a) := ⟨up_cell hup1 HS0.out.1, up_cell hup1 HS0.out.2⟩; clear hup1))
          go_wp2
          (try rw [Exit.noGoto_ret])
          go_ret
          exact ⟨rfl, up_trans HB.out HU1.out⟩
end Go.Proofs.YthneeainigdmhaaGreat.M
