/- UcdTries, walked. -/
import Derived.Test.YtfoldfaeelggoaaGreatK37
set_option linter.unusedVariables false
set_option linter.unusedSimpArgs false
namespace Go.Proofs.YtfoldfaeelggoaaGreat.M
open Go.RowKit
set_option maxHeartbeats 8000000
set_option maxRecDepth 100000

/-- A table that is not right. -/
theorem Made_no (A : Option Addr) (c : Nat) (T : List Rec) (w : World) (hT : Table w A T) (hW : ∀ x ∈ T, x.Wf) (hc : T.length ≤ c) (he : (checkE (T.take 150)).2 ≠ 0) :
    Calls Tryz.prog 15 #[.slice A T.length c] w fun e w' => e = .returned (.tuple #[.pointer none, .slice none 0 0, .int .i64 0]) ∧ Up w w' := by
  refine (Made_calls A c T w hT hW hc).mono ?_
  rintro e w' (⟨_, h⟩ | ⟨h, _⟩)
  · exact h
  · exact absurd h he
/-- A right one. -/
theorem Made_yes (A : Option Addr) (c : Nat) (T P : List Rec) (w : World) (hP : T.take 150 = P) (hT : Table w A T) (hW : ∀ x ∈ T, x.Wf) (hc : T.length ≤ c) (he : (checkE P).2 = 0) :
    Calls Tryz.prog 15 #[.slice A T.length c] w fun e w' => ∃ bd D A c, e = .returned (.tuple #[.pointer (some ⟨bd, 0, none⟩), .slice A P.length c, .int .i64 1]) ∧ DataAt w.heap.size w' bd D P ∧ TabFrom w.heap.size w' A P ∧ Up w w' := by
  subst hP
  refine (Made_calls A c T w hT hW hc).mono ?_
  rintro e w' (⟨h, _⟩ | ⟨_, h⟩)
  · exact absurd he h
  · exact h
def trieP (D : DataV) (p : Int) : Nat := if p = 1 then D.b1 else if p = 2 then D.b3 else if p = 3 then D.b4 else if p = 4 then D.b5 else D.b6
theorem DataAt.trie {H : Nat} {w : World} {bd : Nat} {D : DataV} {T : List Rec} (h : DataAt H w bd D T) (p : Int) : ∃ K, TrieFrom K w (trieP D p) (propF T p) := by
  unfold trieP propF
  refine ⟨bd + 1, ?_⟩
  split
  · exact h.stat.trie
  split
  · exact h.cls
  split
  · exact h.bidi
  split
  · exact h.join
  · exact h.mark
theorem propF_out {T : List Rec} {p c : Int} (h : c < 0 ∨ 1114111 < c) : propF T p c = 0 := by
  unfold propF
  split
  · exact statF_out h
  split
  · exact numF_out h
  split
  · exact numF_out h
  split
  · exact numF_out h
  · exact numF_out h
theorem propF_range {T : List Rec} (hG : Good T) (p c : Int) : 0 ≤ propF T p c ∧ propF T p c ≤ 65535 := by
  unfold propF
  split
  · exact statF_range c
  split
  · exact numF_range (fun x hx hf => right_n (hG.right x hx) (.inl hf))
  split
  · exact numF_range (fun x hx hf => right_n (hG.right x hx) (.inr (.inl hf)))
  split
  · exact numF_range (fun x hx hf => right_n (hG.right x hx) (.inr (.inr hf)))
  · exact numF_range (fun x hx hf => by omega)
theorem Property_calls (A : Option Addr) (c : Nat) (T : List Rec) (p d : Int) (w : World) (hT : Table w A T) (hR : ∀ x ∈ T, Right x) (hW : ∀ x ∈ T, x.Wf) (hl : T.length ≤ 4096) (hd1 : -2147483648 ≤ d) (hd2 : d ≤ 2147483647) (hp : 1 ≤ p) (hp5 : p ≤ 5) (r : Int) (hr : propF T p d = r) :
    Calls Tryz.prog 45 #[.slice A T.length c, .int .i64 p, .int .i32 d] w fun e w' => e = .returned (.int .i64 r) ∧ Up w w' := by
  have hc : p = 1 ∨ p = 2 ∨ p = 3 ∨ p = 4 ∨ p = 5 := by omega
  rcases hc with rfl | rfl | rfl | rfl | rfl
  · exact Property_1 A c T d w hT hR hW hl hd1 hd2 r hr
  · exact Property_2 A c T d w hT hR hW hl hd1 hd2 r hr
  · exact Property_3 A c T d w hT hR hW hl hd1 hd2 r hr
  · exact Property_4 A c T d w hT hR hW hl hd1 hd2 r hr
  · exact Property_5 A c T d w hT hR hW hl hd1 hd2 r hr
theorem Trie_calls {H : Nat} {w : World} {bd : Nat} {D : DataV} {T : List Rec} (h : DataAt H w bd D T) (p : Int) (hp : 1 ≤ p) (hp5 : p ≤ 5) :
    Calls Tryz.prog 43 #[.pointer (some ⟨bd, 0, none⟩), .int .i64 p] w fun e w' => e = .returned (.pointer (some ⟨trieP D p, 0, none⟩)) ∧ w' = w := by
  obtain ⟨⟨a0, a1, a2, a3, a4, a5, a6⟩, _⟩ := h.all
  have hc : p = 1 ∨ p = 2 ∨ p = 3 ∨ p = 4 ∨ p = 5 := by omega
  clear h
  rcases hc with rfl | rfl | rfl | rfl | rfl
  all_goals
    go_enter Tryz.func43, Tryz.ntmps43
    go_wp2
    go_ret
    exact ⟨rfl, rfl⟩
theorem Trie_none (bd : Nat) (p : Int) (w : World) (hp : p < 1 ∨ 5 < p) :
    Calls Tryz.prog 43 #[.pointer (some ⟨bd, 0, none⟩), .int .i64 p] w fun e w' => e = .returned (.pointer none) ∧ w' = w := by
  have c1 : (p == 1) = false := beq_eq_false_iff_ne.mpr (by omega)
  have c2 : (p == 2) = false := beq_eq_false_iff_ne.mpr (by omega)
  have c3 : (p == 3) = false := beq_eq_false_iff_ne.mpr (by omega)
  have c4 : (p == 4) = false := beq_eq_false_iff_ne.mpr (by omega)
  have c5 : (p == 5) = false := beq_eq_false_iff_ne.mpr (by omega)
  clear hp
  go_enter Tryz.func43, Tryz.ntmps43
  go_wp2
  go_ret
  exact ⟨rfl, rfl⟩
theorem UcdTries_no (A : Option Addr) (c : Nat) (T : List Rec) (p : Int) (A2 : Option Addr) (n2 c2 : Nat) (w : World) (hT : Table w A T) (hW : ∀ x ∈ T, x.Wf) (hc : T.length ≤ c) (he : (checkE (T.take 150)).2 ≠ 0) :
    Calls Tryz.prog 8 #[.slice A T.length c, .int .i64 p, .slice A2 n2 c2] w fun e w' => e = .returned (.bool true) ∧ Up w w' := by
  have HM := Aside0.mk (Made_no A c T w hT hW hc he)
  clear hT hW hc he
  go_enter Tryz.func8, Tryz.ntmps8
  go_wp2_with (first | (go_at_call 15; (with_reducible refine HM.out.mono ?_); rintro e w1 ⟨rfl, hup1⟩) | (go_at_call 16; (with_reducible refine (told_calls _).mono ?_); rintro e w2 ⟨rfl, hup2⟩))
  go_ret
  exact ⟨rfl, up_trans hup1 hup2⟩
theorem UcdTries_yes (A : Option Addr) (c : Nat) (T P : List Rec) (p : Int) (A2 : Option Addr) (l : List Int) (c2 : Nat) (w : World) (hP : T.take 150 = P) (hT : Table w A T) (hW : ∀ x ∈ T, x.Wf) (hc : T.length ≤ c) (he : (checkE P).2 = 0) (hI : Ints .i64 w A2 l) (hl : l.length < 4611686018427387904) :
    Calls Tryz.prog 8 #[.slice A T.length c, .int .i64 p, .slice A2 l.length c2] w fun e w' => e = .returned (.bool true) ∧ Up w w' := by
  have HM := Aside0.mk (Made_yes A c T P w hP hT hW hc he)
  have hWP : ∀ x ∈ P, x.Wf := fun x hx => hW x (by rw [← hP] at hx; exact List.mem_of_mem_take hx)
  have HG := Aside0.mk (fine_of hWP he).toGood
  have HW := Aside0.mk hWP
  have HL : Aside0 (P.length ≤ 4096) := ⟨by rw [← hP, List.length_take]; omega⟩
  have HI := Aside0.mk hI
  clear hT hW hc he hI hWP hP
  by_cases hp : p < 1 ∨ 5 < p
  · have HP := Aside0.mk hp
    rcases hp with hp | hp
    · have d1 : decide (p < 1) = true := decide_eq_true hp
      clear hp
      go_enter Tryz.func8, Tryz.ntmps8
      go_wp2_with (first | (go_at_call 15; (with_reducible refine HM.out.mono ?_); rintro e w1 ⟨bd, D, A3, c3, rfl, hD, _, hup1⟩; have HD := Aside0.mk hD; clear hD) | (go_at_call_has 43 p; (with_reducible refine (Trie_none bd p _ HP.out).mono ?_); rintro e w2 ⟨rfl, rfl⟩) | (go_at_call 43; (with_reducible refine (Trie_calls HD.out 1 (by decide) (by decide)).mono ?_); rintro e w2 ⟨rfl, rfl⟩))
      go_ret
      exact ⟨rfl, hup1⟩
    · have d1 : decide (p < 1) = false := decide_eq_false (by omega)
      have d2 : decide (5 < p) = true := decide_eq_true hp
      clear hp
      go_enter Tryz.func8, Tryz.ntmps8
      go_wp2_with (first | (go_at_call 15; (with_reducible refine HM.out.mono ?_); rintro e w1 ⟨bd, D, A3, c3, rfl, hD, _, hup1⟩; have HD := Aside0.mk hD; clear hD) | (go_at_call_has 43 p; (with_reducible refine (Trie_none bd p _ HP.out).mono ?_); rintro e w2 ⟨rfl, rfl⟩) | (go_at_call 43; (with_reducible refine (Trie_calls HD.out 1 (by decide) (by decide)).mono ?_); rintro e w2 ⟨rfl, rfl⟩))
      go_ret
      exact ⟨rfl, hup1⟩
  · have q1 : 1 ≤ p := by omega
    have q5 : p ≤ 5 := by omega
    have d1 : decide (p < 1) = false := decide_eq_false (by omega)
    have d2 : decide (5 < p) = false := decide_eq_false (by omega)
    have Q1 := Aside0.mk q1
    have Q5 := Aside0.mk q5
    clear hp q1 q5
    go_enter Tryz.func8, Tryz.ntmps8
    go_wp2_with (first | (go_at_call 15; (with_reducible refine HM.out.mono ?_); rintro e w1 ⟨bd, D, A3, c3, rfl, hD, hTab, hup1⟩; have HD := Aside0.mk hD; have HT := Aside0.mk hTab; have HU1 := Aside0.mk hup1; clear hD hTab hup1) | (go_at_call 43; (with_reducible refine (Trie_calls HD.out p Q1.out Q5.out).mono ?_); rintro e w2 ⟨rfl, rfl⟩; obtain ⟨K, hK⟩ := HD.out.trie p; have HK := Aside0.mk hK; clear hK) | (go_at_call 44; (with_reducible refine (Default_m K _ _ _ HK.out).mono ?_); rintro e w2 ⟨rfl, rfl⟩))
    go_loopg [11] l.length (fun k v11 w' => ∃ i : Nat, v11 = .int .i64 i ∧ Aside0 (i + k = l.length) ∧ Aside0 (Up w2 w'))
    case atStart => exact ⟨0, rfl, ⟨Nat.zero_add _⟩, ⟨up_refl _⟩⟩
    case round =>
      obtain ⟨i, rfl, HN, HB⟩ := hrel
      cases gk with
      | zero =>
        have hlt : decide ((i : Int) < (l.length : Int)) = false := decide_eq_false (by have := HN.out; omega)
        have hlt1 : ¬ (i < l.length) := by have := HN.out; omega
        go_wp2
        go_ret
        exact ⟨rfl, up_trans HU1.out HB.out⟩
      | succ k =>
        have hlt : decide ((i : Int) < (l.length : Int)) = true := decide_eq_true (by have := HN.out; omega)
        have hlt1 : i < l.length := by have := HN.out; omega
        by_cases h80 : i < 80
        · have d80 : (i : Int) < 80 := by omega
          obtain ⟨ad, hA, hx⟩ := HI.out.at_ i (by omega) (by omega)
          replace hx := up_cell (up_trans HU1.out HB.out) hx
          rw [Int.toNat_natCast] at hx
          subst hA
          obtain ⟨z, hz⟩ : ∃ z, rd l i = z := ⟨_, rfl⟩
          rw [hz] at hx
          have p1 : 0 ≤ (i : Int) := by omega
          have p2 : (i : Int) < (l.length : Int) := by omega
          by_cases hz1 : 0 ≤ z ∧ z ≤ 1114111
          · have HZ1 := Aside0.mk hz1
            have e1 : 0 ≤ z := hz1.1
            have e2 : z ≤ 1114111 := hz1.2
            have hw : wrap32 z = z := by unfold wrap32; omega
            clear hz1 hz h80
            obtain ⟨y, hy⟩ : ∃ y, propF P p z = y := ⟨_, rfl⟩
            have HY := Aside0.mk hy
            clear hy
            go_wp2_with (first | (go_at_call 45; (with_reducible refine (Property_calls A3 c3 P p z _ ((HT.out.up HB.out).table) HG.out.right HW.out HL.out (by have := HZ1.out; omega) (by have := HZ1.out; omega) Q1.out Q5.out y HY.out).mono ?_); rintro e w3 ⟨rfl, hup3⟩; have HU3 := Aside0.mk hup3; clear hup3) | (go_at_call 46; (with_reducible refine (Get_calls K _ _ _ z ((HK.out.up HB.out).up HU3.out) propF_out (propF_range HG.out p z)).mono ?_); rintro e w4 ⟨rfl, hup4⟩; have HU4 := Aside0.mk hup4; have hy := HY.out; clear hup4))
            go_roundg k
            case measure => have := HN.out; omega
            case rel => exact ⟨i + 1, rfl, ⟨by have := HN.out; omega⟩, ⟨up_trans HB.out (up_trans HU3.out HU4.out)⟩⟩
          · have HZ0 : Aside0 (propF P p z = 0) := ⟨propF_out (by omega)⟩
            rcases Int.lt_or_le z 0 with e1 | e1
            · have e1' : ¬ (0 ≤ z) := by omega
              clear hz1 hz h80
              go_wp2_with (first | (go_at_call 46; (with_reducible refine (Get_calls K _ _ _ z (HK.out.up HB.out) propF_out (propF_range HG.out p z)).mono ?_); rintro e w4 ⟨rfl, hup4⟩; have HU4 := Aside0.mk hup4; have hy := HZ0.out; clear hup4))
              go_roundg k
              case measure => have := HN.out; omega
              case rel => exact ⟨i + 1, rfl, ⟨by have := HN.out; omega⟩, ⟨up_trans HB.out HU4.out⟩⟩
            · have e2 : ¬ (z ≤ 1114111) := by omega
              clear hz1 hz h80
              go_wp2_with (first | (go_at_call 46; (with_reducible refine (Get_calls K _ _ _ z (HK.out.up HB.out) propF_out (propF_range HG.out p z)).mono ?_); rintro e w4 ⟨rfl, hup4⟩; have HU4 := Aside0.mk hup4; have hy := HZ0.out; clear hup4))
              go_roundg k
              case measure => have := HN.out; omega
              case rel => exact ⟨i + 1, rfl, ⟨by have := HN.out; omega⟩, ⟨up_trans HB.out HU4.out⟩⟩
        · have d80 : ¬ ((i : Int) < 80) := by omega
          clear h80
          go_wp2
          go_ret
          exact ⟨rfl, up_trans HU1.out HB.out⟩
end Go.Proofs.YtfoldfaeelggoaaGreat.M
