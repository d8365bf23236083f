/- JoinerFree, walked. (printed by mkjfree.py) -/
import Derived.Test.YtfoldfaeelggoaaGreatPJoin3
import Derived.Test.YtfoldfaeelggoaaGreatPJFree0
import Derived.Test.YtfoldfaeelggoaaGreatPTold16
import Derived.Test.YtfoldfaeelggoaaGreatPTried
set_option linter.unusedVariables false
set_option linter.unusedSimpArgs false
namespace Go.Proofs.YtfoldfaeelggoaaGreat.M
open Go.RowKit
set_option maxHeartbeats 16000000
set_option maxRecDepth 100000

theorem JoinerFree_no (A : Option Addr) (c : Nat) (T : List Rec) (A2 : Option Addr) (n2 c2 : Nat) (w : World) (hT : Table w A T) (hW : ∀ x ∈ T, x.Wf) (hc : T.length ≤ c) (he : (checkE (T.take 150)).2 ≠ 0) :
    Calls Tryz.prog 6 #[.slice A T.length c, .slice A2 n2 c2] w fun e w' => e = .returned (.bool true) ∧ Up w w' := by
  have HM := Aside0.mk (Made_no A c T w hT hW hc he)
  clear hT hW hc he
  go_enter Tryz.func6, Tryz.ntmps6
  go_wp2_with (first | (go_at_call 15; (with_reducible refine HM.out.mono ?_); rintro e w1 ⟨rfl, hup1⟩) | (go_at_call 22; (with_reducible refine (told16_calls _).mono ?_); rintro e w2 ⟨rfl, hup2⟩))
  go_ret
  exact ⟨rfl, up_trans hup1 hup2⟩
theorem JoinerFree_yes (A : Option Addr) (c : Nat) (T P : List Rec) (A2 : Option Addr) (x : List Int) (c2 : Nat) (w : World) (N : Nat) (hP : T.take 150 = P) (hT : Table w A T) (hW : ∀ x ∈ T, x.Wf) (hc : T.length ≤ c) (he : (checkE P).2 = 0)
    (hI : Ints .i32 w A2 x) (hx : x.length < 4611686018427387904) (hwf : ∀ z ∈ x, (Lit.int .i32 z).wf = true) (hNN : N = min 60 x.length) :
    Calls Tryz.prog 6 #[.slice A T.length c, .slice A2 x.length c2] w fun e w' => e = .returned (.bool true) ∧ Up w w' := by
  have HM := Aside0.mk (Made_yes A c T P w hP hT hW hc he)
  have hWP : ∀ x ∈ P, x.Wf := fun x hx => hW x (by rw [← hP] at hx; exact List.mem_of_mem_take hx)
  have HG := Aside0.mk (fine_of hWP he).toGood
  have HI := Aside0.mk hI
  have HX := Aside0.mk hx
  have HWF := Aside0.mk hwf
  have HNN := Aside0.mk hNN
  obtain ⟨ie, ze, hie, hze, hsi, hby, hzc⟩ := i32_info
  clear hT hW hc he hI hWP hP hx hwf hNN
  go_enter Tryz.func6, Tryz.ntmps6
  go_wp2_with (first | (go_at_call 15; (with_reducible refine HM.out.mono ?_); rintro e w1 ⟨bd, D, A3, c3, rfl, hD, hTab, hup1⟩; have HD := Aside0.mk hD; have HU1 := Aside0.mk hup1; have HIU : Aside0 (Ints .i32 w1 A2 x) := ⟨HI.out.up hup1⟩; clear hD hTab hup1))
  go_loopg [8, 10, 11] N (fun k v8 v10 v11 w' => ∃ (i : Nat) (p : List Int) (vi : Int) (Ap : Option Addr) (cp : Nat), v8 = .slice Ap p.length cp ∧ v10 = .int .i32 vi ∧ v11 = .int .i64 i ∧ Aside0 (i + k = N ∧ p.length ≤ i ∧ NoJ p ∧ (vi = -1 ∨ ((vi ≠ 8204 ∧ vi ≠ 8205) ∧ clF P vi = 9)) ∧ (Lit.int .i32 vi).wf = true ∧ ∀ z ∈ p, (Lit.int .i32 z).wf = true) ∧ Aside0 (w'.ownsRow w1.heap.size 21 1 (.slice Ap p.length cp) p.length (p.map (Value.int .i32))) ∧ Aside0 (Up w1 w'))
  case atStart => exact ⟨0, [], -1, none, 0, rfl, rfl, rfl, ⟨Nat.zero_add _, Nat.le_refl _, (fun z hz => by cases hz), .inl rfl, by decide, fun z hz => by cases hz⟩, ⟨World.ownsRow_nil _ _ _ _⟩, ⟨up_refl _⟩⟩
  case round =>
    obtain ⟨i, p, vi, Ap, cp, rfl, rfl, rfl, HN, HOWN, HB⟩ := hrel
    cases gk with
    | zero =>
      have hN : i = N := by have := HN.out.1; omega
      by_cases hx1 : i < x.length
      · have h9 : (i : Int) < (x.length : Int) := by omega
        have h8 : ¬ ((i : Int) < 60) := by have := HNN.out; omega
        clear hx1
        obtain ⟨w5, hw5⟩ : ∃ w5 : World, w5 = wr := ⟨_, rfl⟩
        subst hw5
        have HPI : Aside0 (Ints .i32 w5 Ap p) := ⟨by obtain ⟨A', c', he, hi', _⟩ := own_ints HOWN.out; cases he; exact hi'⟩
        have HPL : Aside0 (p.length < 4611686018427387904) := ⟨by have := HN.out.1; have := HN.out.2.1; have := HNN.out; omega⟩
        have HPW : Aside0 (∀ z ∈ p, (Lit.int .i32 z).wf = true) := ⟨HN.out.2.2.2.2.2⟩
        have HPC : Aside0 (checkJ (jnF P) (clF P) p = -1) := ⟨noJ_check HN.out.2.2.1⟩
        have HVI : Aside0 ((vi = -1 ∨ ((vi ≠ 8204 ∧ vi ≠ 8205) ∧ clF P vi = 9)) ∧ (Lit.int .i32 vi).wf = true) := ⟨HN.out.2.2.2.1, HN.out.2.2.2.2.1⟩
        clear HN hN
        go_wp2
        by_cases hvi : vi < 0
        · have v1 : ¬ (0 ≤ vi) := by omega
          clear hvi
          go_loopg [9, 12] 0 (fun k v9 v12 w' => v9 = .slice none 0 0 ∧ v12 = .int .i64 0 ∧ w5 = w')
          case atStart => exact ⟨rfl, rfl, rfl⟩
          case round =>
            obtain ⟨rfl, rfl, rfl⟩ := hrel
            obtain ⟨q, hq0⟩ : ∃ q : List Int, q = [] := ⟨_, rfl⟩
            obtain ⟨cq, hcq⟩ : ∃ cq : Nat, cq = 0 := ⟨_, rfl⟩
            have HV := Aside0.mk (up_refl w5)
            have HQI : Aside0 (Ints .i32 w5 none ([] : List Int)) := ⟨Cells.nil _ _⟩
            have HQL : Aside0 (([] : List Int).length < 4611686018427387904) := ⟨by decide⟩
            have HQW : Aside0 (∀ z ∈ ([] : List Int), (Lit.int .i32 z).wf = true) := ⟨fun z hz => by cases hz⟩
            have HQC : Aside0 (checkJ (jnF P) (clF P) ([] : List Int) = -1) := ⟨rfl⟩
            have HDV := Aside0.mk ((HD.out.up HB.out).up HV.out)
            have HPV := Aside0.mk (HPI.out.up HV.out)
            by_cases hx0 : 0 < x.length
            · have h9 : (0 : Int) < (x.length : Int) := by omega
              go_wp2_with (first | (go_at_call 26; (with_reducible refine (JCheck_none _ _).mono ?_); rintro e wy ⟨rfl, rfl⟩) | (go_at_call 26; (with_reducible refine (JCheck_calls HDV.out HG.out Ap cp p HPV.out HPL.out HPW.out (-1) HPC.out).mono ?_); rintro e wx ⟨rfl, hupx⟩; have HE1 := Aside0.mk hupx; clear hupx))
              go_ret
              exact ⟨rfl, up_trans HU1.out (up_trans HB.out (up_trans HV.out HE1.out))⟩
            · have h9 : ¬ ((0 : Int) < (x.length : Int)) := by omega
              go_wp2_with (first | (go_at_call 26; (with_reducible refine (JCheck_none _ _).mono ?_); rintro e wy ⟨rfl, rfl⟩) | (go_at_call 26; (with_reducible refine (JCheck_calls HDV.out HG.out Ap cp p HPV.out HPL.out HPW.out (-1) HPC.out).mono ?_); rintro e wx ⟨rfl, hupx⟩; have HE1 := Aside0.mk hupx; clear hupx))
              go_ret
              exact ⟨rfl, up_trans HU1.out (up_trans HB.out (up_trans HV.out HE1.out))⟩
        · have v1 : 0 ≤ vi := by omega
          have HV1 : Aside0 ((vi ≠ 8204 ∧ vi ≠ 8205) ∧ clF P vi = 9) := ⟨HVI.out.1.resolve_left (by omega)⟩
          clear hvi
          go_loopg [9, 12] N (fun k v9 v12 w' => ∃ (i : Nat) (q : List Int) (Aq : Option Addr) (cq : Nat), v9 = .slice Aq q.length cq ∧ v12 = .int .i64 i ∧ Aside0 (i + k = N ∧ q.length ≤ 2 * i + 0 * 60 ∧ Led (clF P) q ∧ ∀ z ∈ q, (Lit.int .i32 z).wf = true) ∧ Aside0 (w'.ownsRow w5.heap.size 21 1 (.slice Aq q.length cq) q.length (q.map (Value.int .i32))) ∧ Aside0 (Up w5 w'))
          case atStart => exact ⟨0, [], none, 0, rfl, rfl, ⟨Nat.zero_add _, Nat.zero_le _, led_nil _, fun z hz => by cases hz⟩, ⟨World.ownsRow_nil _ _ _ _⟩, ⟨up_refl _⟩⟩
          case round =>
            obtain ⟨i, q, Aq, cq, rfl, rfl, HN2, HQO, HV⟩ := hrel
            cases gk with
            | zero =>
              have HN2b : Aside0 (q.length ≤ 120) := ⟨by have := HN2.out.1; have := HN2.out.2.1; have := HNN.out; omega⟩
              have HQI : Aside0 (Ints .i32 wr Aq q) := ⟨by obtain ⟨A', c', he, hi', _⟩ := own_ints HQO.out; cases he; exact hi'⟩
              have HQL : Aside0 (q.length < 4611686018427387904) := ⟨by have := HN2b.out; omega⟩
              have HQW : Aside0 (∀ z ∈ q, (Lit.int .i32 z).wf = true) := ⟨HN2.out.2.2.2⟩
              have HQC : Aside0 (checkJ (jnF P) (clF P) q = -1) := ⟨led_check HN2.out.2.2.1⟩
              have HDV := Aside0.mk ((HD.out.up HB.out).up HV.out)
              have HPV := Aside0.mk (HPI.out.up HV.out)
              by_cases hx1 : i < x.length
              · have h9 : (i : Int) < (x.length : Int) := by omega
                have h8 : ¬ ((i : Int) < 60) := by have := HN2.out.1; have := HNN.out; omega
                go_wp2_with (first | (go_at_call 26; (with_reducible refine (JCheck_calls ((HDV.out.up HE1.out)) HG.out _ cq q (HQI.out.up HE1.out) HQL.out HQW.out (-1) HQC.out).mono ?_); rintro e wy ⟨rfl, hupy⟩; have HE2 := Aside0.mk (up_trans HE1.out hupy); clear hupy) | (go_at_call 26; (with_reducible refine (JCheck_calls HDV.out HG.out Ap cp p HPV.out HPL.out HPW.out (-1) HPC.out).mono ?_); rintro e wx ⟨rfl, hupx⟩; have HE1 := Aside0.mk hupx; clear hupx))
                go_ret
                exact ⟨rfl, up_trans HU1.out (up_trans HB.out (up_trans HV.out HE2.out))⟩
              · have h9 : ¬ ((i : Int) < (x.length : Int)) := by omega
                go_wp2_with (first | (go_at_call 26; (with_reducible refine (JCheck_calls ((HDV.out.up HE1.out)) HG.out _ cq q (HQI.out.up HE1.out) HQL.out HQW.out (-1) HQC.out).mono ?_); rintro e wy ⟨rfl, hupy⟩; have HE2 := Aside0.mk (up_trans HE1.out hupy); clear hupy) | (go_at_call 26; (with_reducible refine (JCheck_calls HDV.out HG.out Ap cp p HPV.out HPL.out HPW.out (-1) HPC.out).mono ?_); rintro e wx ⟨rfl, hupx⟩; have HE1 := Aside0.mk hupx; clear hupx))
                go_ret
                exact ⟨rfl, up_trans HU1.out (up_trans HB.out (up_trans HV.out HE2.out))⟩
            | succ k =>
              have hx1 : i < x.length := by have := HN2.out.1; have := HNN.out; omega
              have h9 : (i : Int) < (x.length : Int) := by omega
              have h8 : (i : Int) < 60 := by have := HN2.out.1; have := HNN.out; omega
              have h7 : 0 ≤ (i : Int) := by omega
              have HIX := Aside0.mk hx1
              have HLEN1 : Aside0 (q.length + 1 ≤ maxLen ∧ (q.length + 1) * 4 ≤ 140737488355328) := ⟨by have := HN2.out.2.1; unfold maxLen; omega⟩
              have HLEN2 : Aside0 (q.length + 1 + 1 ≤ maxLen ∧ (q.length + 1 + 1) * 4 ≤ 140737488355328) := ⟨by have := HN2.out.2.1; unfold maxLen; omega⟩
              obtain ⟨ad, hA, hcx⟩ := HIU.out.at_ i h7 h9
              rw [Int.toNat_natCast] at hcx
              subst hA
              obtain ⟨a, ha⟩ : ∃ a, rd x i = a := ⟨_, rfl⟩
              rw [ha] at hcx
              have HCX := Aside0.mk hcx
              have hc0 := up_cell (up_trans HB.out HV.out) hcx
              have HAW : Aside0 ((Lit.int .i32 a).wf = true) := ⟨by rw [← ha, rd_elem x i hx1]; exact HWF.out _ (List.getElem_mem _)⟩
              clear ha hcx
              by_cases hj : a = 8204 ∨ a = 8205
              · have e1 : ∃ c1, (a == 8204) = c1 := ⟨_, rfl⟩
                obtain ⟨c1, e1⟩ := e1
                have e2 : c1 = false → (a == 8205) = true := fun h => by
                  rcases hj with h' | h'
                  · rw [h'] at e1; rw [← e1] at h; exact absurd h (by decide)
                  · exact beq_iff_eq.mpr h'
                clear hj
                have HREL : Aside0 (Led (clF P) ((q ++ [vi]) ++ [a]) ∧ ∀ z ∈ (q ++ [vi]) ++ [a], (Lit.int .i32 z).wf = true) := ⟨led_joiner HN2.out.2.2.1 HV1.out.1 HV1.out.2, fun z hz => by
                  rcases List.mem_append.1 hz with hz | hz
                  · rcases List.mem_append.1 hz with hz | hz
                    · exact HN2.out.2.2.2 z hz
                    · rw [List.mem_singleton.1 hz]; exact HVI.out.2
                  · rw [List.mem_singleton.1 hz]; exact HAW.out⟩
                cases c1 with
                | true =>
                  clear e2
                  go_wp2_with (first | (at_builtin; refine (wpList_append_row _ rfl _ _ 23 rfl w5.heap.size 21 ie ze 1 4 Tryz.underlying23 hie hze hsi hby hzc (by decide) (.slice A6 (q.length + 1) c6) (q.length + 1) ((q ++ [vi]).map (Value.int .i32)) rfl (HQ6b.out.alloc _) (some ⟨w6.heap.size, 0, none⟩) 1 1 [.int .i32 a] rfl rfl (cells_one _ _ _) (ints_one .i32 [a]) ?ha ?hb ?hc ?_); (case ha => exact HLEN2.out.1); (case hb => exact HLEN2.out.2); (case hc => exact Nat.le_trans HV6.out.size (up_alloc (up_refl _) _).size); intro v7 w7 hown7 hgrow7 hat7; obtain ⟨A7, c7, rfl⟩ := own_any hown7; have HQ7 := Aside0.mk hown7; have hup7 := (up_alloc HV6.out (.cells #[.int .i32 a] 21)).grown hgrow7 (up_alloc HV6.out (.cells #[.int .i32 a] 21)).size (fun k hk => (HQ6b.out.lt k hk).1); have HV7 := Aside0.mk hup7; clear hown7 hgrow7 hat7 hup7) | (at_builtin; refine (wpList_append_row _ rfl _ _ 23 rfl w5.heap.size 21 ie ze 1 4 Tryz.underlying23 hie hze hsi hby hzc (by decide) (.slice Aq q.length cq) q.length (q.map (Value.int .i32)) rfl (HQO.out.alloc _) (some ⟨wr.heap.size, 0, none⟩) 1 1 [.int .i32 vi] rfl rfl (cells_one _ _ _) (ints_one .i32 [vi]) ?ha ?hb ?hc ?_); (case ha => exact HLEN1.out.1); (case hb => exact HLEN1.out.2); (case hc => exact Nat.le_trans HV.out.size (up_alloc (up_refl _) _).size); intro v6 w6 hown6 hgrow6 hat6; obtain ⟨A6, c6, rfl⟩ := own_any hown6; have HQ6 := Aside0.mk hown6; have hup6 := (up_alloc HV.out (.cells #[.int .i32 vi] 21)).grown hgrow6 (up_alloc HV.out (.cells #[.int .i32 vi] 21)).size (fun k hk => (HQO.out.lt k hk).1); have HV6 := Aside0.mk hup6; have hc6 := up_cell (up_trans HB.out hup6) HCX.out; have HQ6b : Aside0 (w6.ownsRow w5.heap.size 21 1 (.slice A6 (q.length + 1) c6) (q.length + 1) ((q ++ [vi]).map (Value.int .i32))) := ⟨by rw [List.map_append]; exact hown6⟩; clear hown6 hgrow6 hat6 hup6))
                  go_roundg k
                  case measure => have := HN2.out.1; omega
                  case rel => exact ⟨i + 1, (q ++ [vi]) ++ [a], A7, c7, by simp, rfl, ⟨by have := HN2.out.1; omega, by have := HN2.out.2.1; simp; omega, HREL.out.1, HREL.out.2⟩, ⟨by have := HQ7.out; simpa using this⟩, ⟨HV7.out⟩⟩
                | false =>
                  have e3 := e2 rfl
                  clear e2
                  go_wp2_with (first | (at_builtin; refine (wpList_append_row _ rfl _ _ 23 rfl w5.heap.size 21 ie ze 1 4 Tryz.underlying23 hie hze hsi hby hzc (by decide) (.slice A6 (q.length + 1) c6) (q.length + 1) ((q ++ [vi]).map (Value.int .i32)) rfl (HQ6b.out.alloc _) (some ⟨w6.heap.size, 0, none⟩) 1 1 [.int .i32 a] rfl rfl (cells_one _ _ _) (ints_one .i32 [a]) ?ha ?hb ?hc ?_); (case ha => exact HLEN2.out.1); (case hb => exact HLEN2.out.2); (case hc => exact Nat.le_trans HV6.out.size (up_alloc (up_refl _) _).size); intro v7 w7 hown7 hgrow7 hat7; obtain ⟨A7, c7, rfl⟩ := own_any hown7; have HQ7 := Aside0.mk hown7; have hup7 := (up_alloc HV6.out (.cells #[.int .i32 a] 21)).grown hgrow7 (up_alloc HV6.out (.cells #[.int .i32 a] 21)).size (fun k hk => (HQ6b.out.lt k hk).1); have HV7 := Aside0.mk hup7; clear hown7 hgrow7 hat7 hup7) | (at_builtin; refine (wpList_append_row _ rfl _ _ 23 rfl w5.heap.size 21 ie ze 1 4 Tryz.underlying23 hie hze hsi hby hzc (by decide) (.slice Aq q.length cq) q.length (q.map (Value.int .i32)) rfl (HQO.out.alloc _) (some ⟨wr.heap.size, 0, none⟩) 1 1 [.int .i32 vi] rfl rfl (cells_one _ _ _) (ints_one .i32 [vi]) ?ha ?hb ?hc ?_); (case ha => exact HLEN1.out.1); (case hb => exact HLEN1.out.2); (case hc => exact Nat.le_trans HV.out.size (up_alloc (up_refl _) _).size); intro v6 w6 hown6 hgrow6 hat6; obtain ⟨A6, c6, rfl⟩ := own_any hown6; have HQ6 := Aside0.mk hown6; have hup6 := (up_alloc HV.out (.cells #[.int .i32 vi] 21)).grown hgrow6 (up_alloc HV.out (.cells #[.int .i32 vi] 21)).size (fun k hk => (HQO.out.lt k hk).1); have HV6 := Aside0.mk hup6; have hc6 := up_cell (up_trans HB.out hup6) HCX.out; have HQ6b : Aside0 (w6.ownsRow w5.heap.size 21 1 (.slice A6 (q.length + 1) c6) (q.length + 1) ((q ++ [vi]).map (Value.int .i32))) := ⟨by rw [List.map_append]; exact hown6⟩; clear hown6 hgrow6 hat6 hup6))
                  go_roundg k
                  case measure => have := HN2.out.1; omega
                  case rel => exact ⟨i + 1, (q ++ [vi]) ++ [a], A7, c7, by simp, rfl, ⟨by have := HN2.out.1; omega, by have := HN2.out.2.1; simp; omega, HREL.out.1, HREL.out.2⟩, ⟨by have := HQ7.out; simpa using this⟩, ⟨HV7.out⟩⟩
              · have e1 : (a == 8204) = false := beq_eq_false_iff_ne.mpr (fun h => hj (.inl h))
                have e2 : (a == 8205) = false := beq_eq_false_iff_ne.mpr (fun h => hj (.inr h))
                have HREL : Aside0 (Led (clF P) (q ++ [a]) ∧ ∀ z ∈ q ++ [a], (Lit.int .i32 z).wf = true) := ⟨led_plain HN2.out.2.2.1 ⟨fun h => hj (.inl h), fun h => hj (.inr h)⟩, fun z hz => by
                  rcases List.mem_append.1 hz with hz | hz
                  · exact HN2.out.2.2.2 z hz
                  · rw [List.mem_singleton.1 hz]; exact HAW.out⟩
                clear hj
                go_wp2_with (first | (at_builtin; refine (wpList_append_row _ rfl _ _ 23 rfl w5.heap.size 21 ie ze 1 4 Tryz.underlying23 hie hze hsi hby hzc (by decide) (.slice Aq q.length cq) q.length (q.map (Value.int .i32)) rfl (HQO.out.alloc _) (some ⟨wr.heap.size, 0, none⟩) 1 1 [.int .i32 a] rfl rfl (cells_one _ _ _) (ints_one .i32 [a]) ?ha ?hb ?hc ?_); (case ha => exact HLEN1.out.1); (case hb => exact HLEN1.out.2); (case hc => exact Nat.le_trans HV.out.size (up_alloc (up_refl _) _).size); intro v7 w7 hown7 hgrow7 hat7; obtain ⟨A7, c7, rfl⟩ := own_any hown7; have HQ7 := Aside0.mk hown7; have hup7 := (up_alloc HV.out (.cells #[.int .i32 a] 21)).grown hgrow7 (up_alloc HV.out (.cells #[.int .i32 a] 21)).size (fun k hk => (HQO.out.lt k hk).1); have HV7 := Aside0.mk hup7; clear hown7 hgrow7 hat7 hup7))
                go_roundg k
                case measure => have := HN2.out.1; omega
                case rel => exact ⟨i + 1, q ++ [a], A7, c7, by simp, rfl, ⟨by have := HN2.out.1; omega, by have := HN2.out.2.1; simp; omega, HREL.out.1, HREL.out.2⟩, ⟨by have := HQ7.out; simpa using this⟩, ⟨HV7.out⟩⟩
      · have h9 : ¬ ((i : Int) < (x.length : Int)) := by omega
        obtain ⟨w5, hw5⟩ : ∃ w5 : World, w5 = wr := ⟨_, rfl⟩
        subst hw5
        have HPI : Aside0 (Ints .i32 w5 Ap p) := ⟨by obtain ⟨A', c', he, hi', _⟩ := own_ints HOWN.out; cases he; exact hi'⟩
        have HPL : Aside0 (p.length < 4611686018427387904) := ⟨by have := HN.out.1; have := HN.out.2.1; have := HNN.out; omega⟩
        have HPW : Aside0 (∀ z ∈ p, (Lit.int .i32 z).wf = true) := ⟨HN.out.2.2.2.2.2⟩
        have HPC : Aside0 (checkJ (jnF P) (clF P) p = -1) := ⟨noJ_check HN.out.2.2.1⟩
        have HVI : Aside0 ((vi = -1 ∨ ((vi ≠ 8204 ∧ vi ≠ 8205) ∧ clF P vi = 9)) ∧ (Lit.int .i32 vi).wf = true) := ⟨HN.out.2.2.2.1, HN.out.2.2.2.2.1⟩
        clear HN hN
        go_wp2
        by_cases hvi : vi < 0
        · have v1 : ¬ (0 ≤ vi) := by omega
          clear hvi
          go_loopg [9, 12] 0 (fun k v9 v12 w' => v9 = .slice none 0 0 ∧ v12 = .int .i64 0 ∧ w5 = w')
          case atStart => exact ⟨rfl, rfl, rfl⟩
          case round =>
            obtain ⟨rfl, rfl, rfl⟩ := hrel
            obtain ⟨q, hq0⟩ : ∃ q : List Int, q = [] := ⟨_, rfl⟩
            obtain ⟨cq, hcq⟩ : ∃ cq : Nat, cq = 0 := ⟨_, rfl⟩
            have HV := Aside0.mk (up_refl w5)
            have HQI : Aside0 (Ints .i32 w5 none ([] : List Int)) := ⟨Cells.nil _ _⟩
            have HQL : Aside0 (([] : List Int).length < 4611686018427387904) := ⟨by decide⟩
            have HQW : Aside0 (∀ z ∈ ([] : List Int), (Lit.int .i32 z).wf = true) := ⟨fun z hz => by cases hz⟩
            have HQC : Aside0 (checkJ (jnF P) (clF P) ([] : List Int) = -1) := ⟨rfl⟩
            have HDV := Aside0.mk ((HD.out.up HB.out).up HV.out)
            have HPV := Aside0.mk (HPI.out.up HV.out)
            by_cases hx0 : 0 < x.length
            · have h9 : (0 : Int) < (x.length : Int) := by omega
              go_wp2_with (first | (go_at_call 26; (with_reducible refine (JCheck_none _ _).mono ?_); rintro e wy ⟨rfl, rfl⟩) | (go_at_call 26; (with_reducible refine (JCheck_calls HDV.out HG.out Ap cp p HPV.out HPL.out HPW.out (-1) HPC.out).mono ?_); rintro e wx ⟨rfl, hupx⟩; have HE1 := Aside0.mk hupx; clear hupx))
              go_ret
              exact ⟨rfl, up_trans HU1.out (up_trans HB.out (up_trans HV.out HE1.out))⟩
            · have h9 : ¬ ((0 : Int) < (x.length : Int)) := by omega
              go_wp2_with (first | (go_at_call 26; (with_reducible refine (JCheck_none _ _).mono ?_); rintro e wy ⟨rfl, rfl⟩) | (go_at_call 26; (with_reducible refine (JCheck_calls HDV.out HG.out Ap cp p HPV.out HPL.out HPW.out (-1) HPC.out).mono ?_); rintro e wx ⟨rfl, hupx⟩; have HE1 := Aside0.mk hupx; clear hupx))
              go_ret
              exact ⟨rfl, up_trans HU1.out (up_trans HB.out (up_trans HV.out HE1.out))⟩
        · have v1 : 0 ≤ vi := by omega
          have HV1 : Aside0 ((vi ≠ 8204 ∧ vi ≠ 8205) ∧ clF P vi = 9) := ⟨HVI.out.1.resolve_left (by omega)⟩
          clear hvi
          go_loopg [9, 12] N (fun k v9 v12 w' => ∃ (i : Nat) (q : List Int) (Aq : Option Addr) (cq : Nat), v9 = .slice Aq q.length cq ∧ v12 = .int .i64 i ∧ Aside0 (i + k = N ∧ q.length ≤ 2 * i + 0 * 60 ∧ Led (clF P) q ∧ ∀ z ∈ q, (Lit.int .i32 z).wf = true) ∧ Aside0 (w'.ownsRow w5.heap.size 21 1 (.slice Aq q.length cq) q.length (q.map (Value.int .i32))) ∧ Aside0 (Up w5 w'))
          case atStart => exact ⟨0, [], none, 0, rfl, rfl, ⟨Nat.zero_add _, Nat.zero_le _, led_nil _, fun z hz => by cases hz⟩, ⟨World.ownsRow_nil _ _ _ _⟩, ⟨up_refl _⟩⟩
          case round =>
            obtain ⟨i, q, Aq, cq, rfl, rfl, HN2, HQO, HV⟩ := hrel
            cases gk with
            | zero =>
              have HN2b : Aside0 (q.length ≤ 120) := ⟨by have := HN2.out.1; have := HN2.out.2.1; have := HNN.out; omega⟩
              have HQI : Aside0 (Ints .i32 wr Aq q) := ⟨by obtain ⟨A', c', he, hi', _⟩ := own_ints HQO.out; cases he; exact hi'⟩
              have HQL : Aside0 (q.length < 4611686018427387904) := ⟨by have := HN2b.out; omega⟩
              have HQW : Aside0 (∀ z ∈ q, (Lit.int .i32 z).wf = true) := ⟨HN2.out.2.2.2⟩
              have HQC : Aside0 (checkJ (jnF P) (clF P) q = -1) := ⟨led_check HN2.out.2.2.1⟩
              have HDV := Aside0.mk ((HD.out.up HB.out).up HV.out)
              have HPV := Aside0.mk (HPI.out.up HV.out)
              by_cases hx1 : i < x.length
              · have h9 : (i : Int) < (x.length : Int) := by omega
                have h8 : ¬ ((i : Int) < 60) := by have := HN2.out.1; have := HNN.out; omega
                go_wp2_with (first | (go_at_call 26; (with_reducible refine (JCheck_calls ((HDV.out.up HE1.out)) HG.out _ cq q (HQI.out.up HE1.out) HQL.out HQW.out (-1) HQC.out).mono ?_); rintro e wy ⟨rfl, hupy⟩; have HE2 := Aside0.mk (up_trans HE1.out hupy); clear hupy) | (go_at_call 26; (with_reducible refine (JCheck_calls HDV.out HG.out Ap cp p HPV.out HPL.out HPW.out (-1) HPC.out).mono ?_); rintro e wx ⟨rfl, hupx⟩; have HE1 := Aside0.mk hupx; clear hupx))
                go_ret
                exact ⟨rfl, up_trans HU1.out (up_trans HB.out (up_trans HV.out HE2.out))⟩
              · have h9 : ¬ ((i : Int) < (x.length : Int)) := by omega
                go_wp2_with (first | (go_at_call 26; (with_reducible refine (JCheck_calls ((HDV.out.up HE1.out)) HG.out _ cq q (HQI.out.up HE1.out) HQL.out HQW.out (-1) HQC.out).mono ?_); rintro e wy ⟨rfl, hupy⟩; have HE2 := Aside0.mk (up_trans HE1.out hupy); clear hupy) | (go_at_call 26; (with_reducible refine (JCheck_calls HDV.out HG.out Ap cp p HPV.out HPL.out HPW.out (-1) HPC.out).mono ?_); rintro e wx ⟨rfl, hupx⟩; have HE1 := Aside0.mk hupx; clear hupx))
                go_ret
                exact ⟨rfl, up_trans HU1.out (up_trans HB.out (up_trans HV.out HE2.out))⟩
            | succ k =>
              have hx1 : i < x.length := by have := HN2.out.1; have := HNN.out; omega
              have h9 : (i : Int) < (x.length : Int) := by omega
              have h8 : (i : Int) < 60 := by have := HN2.out.1; have := HNN.out; omega
              have h7 : 0 ≤ (i : Int) := by omega
              have HIX := Aside0.mk hx1
              have HLEN1 : Aside0 (q.length + 1 ≤ maxLen ∧ (q.length + 1) * 4 ≤ 140737488355328) := ⟨by have := HN2.out.2.1; unfold maxLen; omega⟩
              have HLEN2 : Aside0 (q.length + 1 + 1 ≤ maxLen ∧ (q.length + 1 + 1) * 4 ≤ 140737488355328) := ⟨by have := HN2.out.2.1; unfold maxLen; omega⟩
              obtain ⟨ad, hA, hcx⟩ := HIU.out.at_ i h7 h9
              rw [Int.toNat_natCast] at hcx
              subst hA
              obtain ⟨a, ha⟩ : ∃ a, rd x i = a := ⟨_, rfl⟩
              rw [ha] at hcx
              have HCX := Aside0.mk hcx
              have hc0 := up_cell (up_trans HB.out HV.out) hcx
              have HAW : Aside0 ((Lit.int .i32 a).wf = true) := ⟨by rw [← ha, rd_elem x i hx1]; exact HWF.out _ (List.getElem_mem _)⟩
              clear ha hcx
              by_cases hj : a = 8204 ∨ a = 8205
              · have e1 : ∃ c1, (a == 8204) = c1 := ⟨_, rfl⟩
                obtain ⟨c1, e1⟩ := e1
                have e2 : c1 = false → (a == 8205) = true := fun h => by
                  rcases hj with h' | h'
                  · rw [h'] at e1; rw [← e1] at h; exact absurd h (by decide)
                  · exact beq_iff_eq.mpr h'
                clear hj
                have HREL : Aside0 (Led (clF P) ((q ++ [vi]) ++ [a]) ∧ ∀ z ∈ (q ++ [vi]) ++ [a], (Lit.int .i32 z).wf = true) := ⟨led_joiner HN2.out.2.2.1 HV1.out.1 HV1.out.2, fun z hz => by
                  rcases List.mem_append.1 hz with hz | hz
                  · rcases List.mem_append.1 hz with hz | hz
                    · exact HN2.out.2.2.2 z hz
                    · rw [List.mem_singleton.1 hz]; exact HVI.out.2
                  · rw [List.mem_singleton.1 hz]; exact HAW.out⟩
                cases c1 with
                | true =>
                  clear e2
                  go_wp2_with (first | (at_builtin; refine (wpList_append_row _ rfl _ _ 23 rfl w5.heap.size 21 ie ze 1 4 Tryz.underlying23 hie hze hsi hby hzc (by decide) (.slice A6 (q.length + 1) c6) (q.length + 1) ((q ++ [vi]).map (Value.int .i32)) rfl (HQ6b.out.alloc _) (some ⟨w6.heap.size, 0, none⟩) 1 1 [.int .i32 a] rfl rfl (cells_one _ _ _) (ints_one .i32 [a]) ?ha ?hb ?hc ?_); (case ha => exact HLEN2.out.1); (case hb => exact HLEN2.out.2); (case hc => exact Nat.le_trans HV6.out.size (up_alloc (up_refl _) _).size); intro v7 w7 hown7 hgrow7 hat7; obtain ⟨A7, c7, rfl⟩ := own_any hown7; have HQ7 := Aside0.mk hown7; have hup7 := (up_alloc HV6.out (.cells #[.int .i32 a] 21)).grown hgrow7 (up_alloc HV6.out (.cells #[.int .i32 a] 21)).size (fun k hk => (HQ6b.out.lt k hk).1); have HV7 := Aside0.mk hup7; clear hown7 hgrow7 hat7 hup7) | (at_builtin; refine (wpList_append_row _ rfl _ _ 23 rfl w5.heap.size 21 ie ze 1 4 Tryz.underlying23 hie hze hsi hby hzc (by decide) (.slice Aq q.length cq) q.length (q.map (Value.int .i32)) rfl (HQO.out.alloc _) (some ⟨wr.heap.size, 0, none⟩) 1 1 [.int .i32 vi] rfl rfl (cells_one _ _ _) (ints_one .i32 [vi]) ?ha ?hb ?hc ?_); (case ha => exact HLEN1.out.1); (case hb => exact HLEN1.out.2); (case hc => exact Nat.le_trans HV.out.size (up_alloc (up_refl _) _).size); intro v6 w6 hown6 hgrow6 hat6; obtain ⟨A6, c6, rfl⟩ := own_any hown6; have HQ6 := Aside0.mk hown6; have hup6 := (up_alloc HV.out (.cells #[.int .i32 vi] 21)).grown hgrow6 (up_alloc HV.out (.cells #[.int .i32 vi] 21)).size (fun k hk => (HQO.out.lt k hk).1); have HV6 := Aside0.mk hup6; have hc6 := up_cell (up_trans HB.out hup6) HCX.out; have HQ6b : Aside0 (w6.ownsRow w5.heap.size 21 1 (.slice A6 (q.length + 1) c6) (q.length + 1) ((q ++ [vi]).map (Value.int .i32))) := ⟨by rw [List.map_append]; exact hown6⟩; clear hown6 hgrow6 hat6 hup6))
                  go_roundg k
                  case measure => have := HN2.out.1; omega
                  case rel => exact ⟨i + 1, (q ++ [vi]) ++ [a], A7, c7, by simp, rfl, ⟨by have := HN2.out.1; omega, by have := HN2.out.2.1; simp; omega, HREL.out.1, HREL.out.2⟩, ⟨by have := HQ7.out; simpa using this⟩, ⟨HV7.out⟩⟩
                | false =>
                  have e3 := e2 rfl
                  clear e2
                  go_wp2_with (first | (at_builtin; refine (wpList_append_row _ rfl _ _ 23 rfl w5.heap.size 21 ie ze 1 4 Tryz.underlying23 hie hze hsi hby hzc (by decide) (.slice A6 (q.length + 1) c6) (q.length + 1) ((q ++ [vi]).map (Value.int .i32)) rfl (HQ6b.out.alloc _) (some ⟨w6.heap.size, 0, none⟩) 1 1 [.int .i32 a] rfl rfl (cells_one _ _ _) (ints_one .i32 [a]) ?ha ?hb ?hc ?_); (case ha => exact HLEN2.out.1); (case hb => exact HLEN2.out.2); (case hc => exact Nat.le_trans HV6.out.size (up_alloc (up_refl _) _).size); intro v7 w7 hown7 hgrow7 hat7; obtain ⟨A7, c7, rfl⟩ := own_any hown7; have HQ7 := Aside0.mk hown7; have hup7 := (up_alloc HV6.out (.cells #[.int .i32 a] 21)).grown hgrow7 (up_alloc HV6.out (.cells #[.int .i32 a] 21)).size (fun k hk => (HQ6b.out.lt k hk).1); have HV7 := Aside0.mk hup7; clear hown7 hgrow7 hat7 hup7) | (at_builtin; refine (wpList_append_row _ rfl _ _ 23 rfl w5.heap.size 21 ie ze 1 4 Tryz.underlying23 hie hze hsi hby hzc (by decide) (.slice Aq q.length cq) q.length (q.map (Value.int .i32)) rfl (HQO.out.alloc _) (some ⟨wr.heap.size, 0, none⟩) 1 1 [.int .i32 vi] rfl rfl (cells_one _ _ _) (ints_one .i32 [vi]) ?ha ?hb ?hc ?_); (case ha => exact HLEN1.out.1); (case hb => exact HLEN1.out.2); (case hc => exact Nat.le_trans HV.out.size (up_alloc (up_refl _) _).size); intro v6 w6 hown6 hgrow6 hat6; obtain ⟨A6, c6, rfl⟩ := own_any hown6; have HQ6 := Aside0.mk hown6; have hup6 := (up_alloc HV.out (.cells #[.int .i32 vi] 21)).grown hgrow6 (up_alloc HV.out (.cells #[.int .i32 vi] 21)).size (fun k hk => (HQO.out.lt k hk).1); have HV6 := Aside0.mk hup6; have hc6 := up_cell (up_trans HB.out hup6) HCX.out; have HQ6b : Aside0 (w6.ownsRow w5.heap.size 21 1 (.slice A6 (q.length + 1) c6) (q.length + 1) ((q ++ [vi]).map (Value.int .i32))) := ⟨by rw [List.map_append]; exact hown6⟩; clear hown6 hgrow6 hat6 hup6))
                  go_roundg k
                  case measure => have := HN2.out.1; omega
                  case rel => exact ⟨i + 1, (q ++ [vi]) ++ [a], A7, c7, by simp, rfl, ⟨by have := HN2.out.1; omega, by have := HN2.out.2.1; simp; omega, HREL.out.1, HREL.out.2⟩, ⟨by have := HQ7.out; simpa using this⟩, ⟨HV7.out⟩⟩
              · have e1 : (a == 8204) = false := beq_eq_false_iff_ne.mpr (fun h => hj (.inl h))
                have e2 : (a == 8205) = false := beq_eq_false_iff_ne.mpr (fun h => hj (.inr h))
                have HREL : Aside0 (Led (clF P) (q ++ [a]) ∧ ∀ z ∈ q ++ [a], (Lit.int .i32 z).wf = true) := ⟨led_plain HN2.out.2.2.1 ⟨fun h => hj (.inl h), fun h => hj (.inr h)⟩, fun z hz => by
                  rcases List.mem_append.1 hz with hz | hz
                  · exact HN2.out.2.2.2 z hz
                  · rw [List.mem_singleton.1 hz]; exact HAW.out⟩
                clear hj
                go_wp2_with (first | (at_builtin; refine (wpList_append_row _ rfl _ _ 23 rfl w5.heap.size 21 ie ze 1 4 Tryz.underlying23 hie hze hsi hby hzc (by decide) (.slice Aq q.length cq) q.length (q.map (Value.int .i32)) rfl (HQO.out.alloc _) (some ⟨wr.heap.size, 0, none⟩) 1 1 [.int .i32 a] rfl rfl (cells_one _ _ _) (ints_one .i32 [a]) ?ha ?hb ?hc ?_); (case ha => exact HLEN1.out.1); (case hb => exact HLEN1.out.2); (case hc => exact Nat.le_trans HV.out.size (up_alloc (up_refl _) _).size); intro v7 w7 hown7 hgrow7 hat7; obtain ⟨A7, c7, rfl⟩ := own_any hown7; have HQ7 := Aside0.mk hown7; have hup7 := (up_alloc HV.out (.cells #[.int .i32 a] 21)).grown hgrow7 (up_alloc HV.out (.cells #[.int .i32 a] 21)).size (fun k hk => (HQO.out.lt k hk).1); have HV7 := Aside0.mk hup7; clear hown7 hgrow7 hat7 hup7))
                go_roundg k
                case measure => have := HN2.out.1; omega
                case rel => exact ⟨i + 1, q ++ [a], A7, c7, by simp, rfl, ⟨by have := HN2.out.1; omega, by have := HN2.out.2.1; simp; omega, HREL.out.1, HREL.out.2⟩, ⟨by have := HQ7.out; simpa using this⟩, ⟨HV7.out⟩⟩
    | succ k =>
      have hx1 : i < x.length := by have := HN.out.1; have := HNN.out; omega
      have h9 : (i : Int) < (x.length : Int) := by omega
      have h8 : (i : Int) < 60 := by have := HN.out.1; have := HNN.out; omega
      have h7 : 0 ≤ (i : Int) := by omega
      have HLEN : Aside0 (p.length + 1 ≤ maxLen ∧ (p.length + 1) * 4 ≤ 140737488355328) := ⟨by have := HN.out.2.1; unfold maxLen; omega⟩
      obtain ⟨ad, hA, hcx⟩ := HIU.out.at_ i h7 h9
      rw [Int.toNat_natCast] at hcx
      subst hA
      obtain ⟨a, ha⟩ : ∃ a, rd x i = a := ⟨_, rfl⟩
      rw [ha] at hcx
      have HCX := Aside0.mk hcx
      have hc0 := up_cell HB.out hcx
      have HAW : Aside0 ((Lit.int .i32 a).wf = true) := ⟨by rw [← ha, rd_elem x i hx1]; exact HWF.out _ (List.getElem_mem _)⟩
      have HAR := Aside0.mk (wf_i32 HAW.out)
      clear ha hcx
      by_cases hj : a ≠ 8204 ∧ a ≠ 8205
      · have e1 : (a == 8204) = false := beq_eq_false_iff_ne.mpr hj.1
        have e2 : (a == 8205) = false := beq_eq_false_iff_ne.mpr hj.2
        have e3 : (a != 8204) = true := bne_iff_ne.mpr hj.1
        have e4 : (a != 8205) = true := bne_iff_ne.mpr hj.2
        have HPL0 := Aside0.mk hj
        have HPW0 : Aside0 (∀ z ∈ p ++ [a], (Lit.int .i32 z).wf = true) := ⟨fun z hz => by
          rcases List.mem_append.1 hz with hz | hz
          · exact HN.out.2.2.2.2.2 z hz
          · rw [List.mem_singleton.1 hz]; exact HAW.out⟩
        obtain ⟨y, hy⟩ : ∃ y, clF P a = y := ⟨_, rfl⟩
        have HY := Aside0.mk hy
        clear hy hj
        by_cases hy9 : y = 9
        · have g9 : (y == 9) = true := beq_iff_eq.mpr hy9
          have HY9 := Aside0.mk hy9
          clear hy9
          go_wp2_with (first | (at_builtin; refine (wpList_append_row _ rfl _ _ 23 rfl w1.heap.size 21 ie ze 1 4 Tryz.underlying23 hie hze hsi hby hzc (by decide) (.slice Ap p.length cp) p.length (p.map (Value.int .i32)) rfl (HOWN.out.alloc _) (some ⟨wr.heap.size, 0, none⟩) 1 1 [.int .i32 a] rfl rfl (cells_one _ _ _) (ints_one .i32 [a]) ?ha ?hb ?hc ?_); (case ha => exact HLEN.out.1); (case hb => exact HLEN.out.2); (case hc => exact Nat.le_trans HB.out.size (up_alloc (up_refl _) _).size); intro v6 w6 hown6 hgrow6 hat6; obtain ⟨A6, c6, rfl⟩ := own_any hown6; have HQ6 := Aside0.mk hown6; have hup6 := (up_alloc HB.out (.cells #[.int .i32 a] 21)).grown hgrow6 (up_alloc HB.out (.cells #[.int .i32 a] 21)).size (fun k hk => (HOWN.out.lt k hk).1); have HB6 := Aside0.mk hup6; have hc6 := up_cell hup6 HCX.out; obtain ⟨⟨a0, a1, a2, a3, a4, a5, a6⟩, _⟩ := (HD.out.up hup6).all; have hs0 : w6.drew.cell? ⟨bd, 3, none⟩ = some (.pointer (some ⟨D.b3, 0, none⟩)) ∧ w6.drew.cell? (ad.add i) = some (.int .i32 a) := ⟨a3, hc6⟩; have HS0 := Aside0.mk hs0; clear hown6 hgrow6 hat6 hup6))
          go_region_held3 (fun w' => w'.cell? ⟨bd, 3, none⟩ = some (.pointer (some ⟨D.b3, 0, none⟩)) ∧ w'.cell? (ad.add i) = some (.int .i32 a)) (first | exact hs0 | exact hs1) (first | (go_at_call 29; (with_reducible refine (((HD.out.up HB6.out).up (up_drew (up_refl w6))).Class HG.out a y HY.out HAR.out.1 HAR.out.2).mono ?_); rintro e w7 ⟨rfl, hup7⟩; have HB7 := Aside0.mk (up_trans (up_drew HB6.out) hup7); have HU67 := Aside0.mk (up_trans (up_drew (up_refl w6)) hup7); have hs1 : w7.cell? ⟨bd, 3, none⟩ = some (.pointer (some ⟨D.b3, 0, none⟩)) ∧ w7.cell? (ad.add i) = some (.int .i32 a) := ⟨up_cell hup7 HS0.out.1, up_cell hup7 HS0.out.2⟩; have hc7 := hs1.2; clear hup7))
          go_wp2
          go_roundg k
          case measure => have := HN.out.1; omega
          case rel => exact ⟨i + 1, p ++ [a], a, A6, c6, by simp, rfl, rfl, ⟨by have := HN.out.1; omega, by have := HN.out.2.1; simp; omega, noJ_snoc HN.out.2.2.1 HPL0.out, .inr ⟨HPL0.out, by rw [HY.out]; exact HY9.out⟩, HAW.out, HPW0.out⟩, ⟨by have := own_up HQ6.out HU67.out; simpa using this⟩, ⟨HB7.out⟩⟩
        · have g9 : (y == 9) = false := beq_eq_false_iff_ne.mpr hy9
          clear hy9
          go_wp2_with (first | (at_builtin; refine (wpList_append_row _ rfl _ _ 23 rfl w1.heap.size 21 ie ze 1 4 Tryz.underlying23 hie hze hsi hby hzc (by decide) (.slice Ap p.length cp) p.length (p.map (Value.int .i32)) rfl (HOWN.out.alloc _) (some ⟨wr.heap.size, 0, none⟩) 1 1 [.int .i32 a] rfl rfl (cells_one _ _ _) (ints_one .i32 [a]) ?ha ?hb ?hc ?_); (case ha => exact HLEN.out.1); (case hb => exact HLEN.out.2); (case hc => exact Nat.le_trans HB.out.size (up_alloc (up_refl _) _).size); intro v6 w6 hown6 hgrow6 hat6; obtain ⟨A6, c6, rfl⟩ := own_any hown6; have HQ6 := Aside0.mk hown6; have hup6 := (up_alloc HB.out (.cells #[.int .i32 a] 21)).grown hgrow6 (up_alloc HB.out (.cells #[.int .i32 a] 21)).size (fun k hk => (HOWN.out.lt k hk).1); have HB6 := Aside0.mk hup6; have hc6 := up_cell hup6 HCX.out; obtain ⟨⟨a0, a1, a2, a3, a4, a5, a6⟩, _⟩ := (HD.out.up hup6).all; have hs0 : w6.drew.cell? ⟨bd, 3, none⟩ = some (.pointer (some ⟨D.b3, 0, none⟩)) ∧ w6.drew.cell? (ad.add i) = some (.int .i32 a) := ⟨a3, hc6⟩; have HS0 := Aside0.mk hs0; clear hown6 hgrow6 hat6 hup6))
          go_region_held3 (fun w' => w'.cell? ⟨bd, 3, none⟩ = some (.pointer (some ⟨D.b3, 0, none⟩)) ∧ w'.cell? (ad.add i) = some (.int .i32 a)) (first | exact hs0 | exact hs1) (first | (go_at_call 29; (with_reducible refine (((HD.out.up HB6.out).up (up_drew (up_refl w6))).Class HG.out a y HY.out HAR.out.1 HAR.out.2).mono ?_); rintro e w7 ⟨rfl, hup7⟩; have HB7 := Aside0.mk (up_trans (up_drew HB6.out) hup7); have HU67 := Aside0.mk (up_trans (up_drew (up_refl w6)) hup7); have hs1 : w7.cell? ⟨bd, 3, none⟩ = some (.pointer (some ⟨D.b3, 0, none⟩)) ∧ w7.cell? (ad.add i) = some (.int .i32 a) := ⟨up_cell hup7 HS0.out.1, up_cell hup7 HS0.out.2⟩; have hc7 := hs1.2; clear hup7))
          go_wp2
          go_roundg k
          case measure => have := HN.out.1; omega
          case rel => exact ⟨i + 1, p ++ [a], vi, A6, c6, by simp, rfl, rfl, ⟨by have := HN.out.1; omega, by have := HN.out.2.1; simp; omega, noJ_snoc HN.out.2.2.1 HPL0.out, HN.out.2.2.2.1, HN.out.2.2.2.2.1, HPW0.out⟩, ⟨by have := own_up HQ6.out HU67.out; simpa using this⟩, ⟨HB7.out⟩⟩
      · have hq : a = 8204 ∨ a = 8205 := by
          rcases Int.decEq a 8204 with h | h
          · rcases Int.decEq a 8205 with h' | h'
            · exact absurd ⟨h, h'⟩ hj
            · exact .inr h'
          · exact .inl h
        clear hj
        rcases hq with rfl | rfl
        all_goals
          go_wp2
          go_roundg k
          case measure => have := HN.out.1; omega
          case rel => exact ⟨i + 1, p, vi, Ap, cp, rfl, rfl, rfl, ⟨by have := HN.out.1; omega, by have := HN.out.2.1; omega, HN.out.2.2⟩, HOWN, HB⟩
end Go.Proofs.YtfoldfaeelggoaaGreat.M
