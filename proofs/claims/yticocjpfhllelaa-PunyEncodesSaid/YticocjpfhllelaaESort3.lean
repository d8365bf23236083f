/- The walk of sort.symMerge_func. -/
import Derived.Test.YticocjpfhllelaaESort1
namespace Go.Proofs.Yticocjpfhllelaa.XP
open Go.Shelf Go.RowKit Go.Lib Go.Sort Go.Proofs.StableSort Go.Proofs.YticocjpfhllelaaW.PrintWords Go.Proofs.YticocjpfhllelaaW.PrintLast
variable {α : Type} [Inhabited α]

set_option maxHeartbeats 4000000 in
set_option maxRecDepth 100000 in
/-- One element to the left: it is put in its place among the right ones. -/
theorem sym_left (enc : α → Value) (lt tot : α → α → Bool) (hO : SWO tot) (g : Nat) (lb : Array Value) (sf : Nat) (sb : Array Value) (blk off a m b : Nat) (d : Array α) (w : World)
    (eg : ∀ args w, (callFunc g args).run Try.prog w = .ok (.enter g args) w) (hless : LessReads Try.prog g lb enc lt blk off d.size w)
    (hswap : SwapSwaps Try.prog sf sb enc blk off d.size) (hH : Holds enc w blk off d) (hblk : blk < w.heap.size) (ham : m = a + 1) (hmb : m < b) (hb : b ≤ d.size) (hsz : d.size < 4611686018427387904)
    (sR : SortedIn tot m b d) (hP : Pre lt tot a m b d) :
    Calls Try.prog 58 #[.agg #[.func (.func g) #[] lb, .func (.func sf) #[] sb], .int .i64 a, .int .i64 m, .int .i64 b] w fun e w' =>
      e = .returned (.tuple #[]) ∧ ∃ d', PermIn a b d d' ∧ SortedIn tot a b d' ∧ SW enc w blk off d' w' := by
  have hH1 : Holds enc (w.alloc (.cells #[.func (.func g) #[] lb, .func (.func sf) #[] sb] 75)) blk off d := by rw [alloc_eq_grow]; exact holds_grow enc w _ blk off d hblk hH
  have hW0 := (SW.start hH).alloc (.cells #[.func (.func g) #[] lb, .func (.func sf) #[] sb] 75)
  have hless1 := Aside0.mk (hW0.lessReads hless hblk rfl)
  have hbw1 : blk < (w.alloc (.cells #[.func (.func g) #[] lb, .func (.func sf) #[] sb] 75)).heap.size := by simp; omega
  clear hless hW0
  have hma : ((m : Int) - a == 1) = true := by rw [beq_iff_eq]; omega
  have HAM := Aside0.mk ham
  have ham2 : a < m := by omega
  clear ham
  go_enter Try.func58, Try.ntmps58
  go_wp2
  go_loopw [8, 9, 10] (fun vi vj _ wr => ∃ (i j : Nat), vi = .int .i64 i ∧ vj = .int .i64 j ∧ m ≤ i ∧ i ≤ j ∧ j ≤ b ∧ (i = m ∨ lt d[i - 1]! d[a]! = true) ∧ (j = b ∨ lt d[j]! d[a]! = false) ∧ SW enc (w.alloc (.cells #[.func (.func g) #[] lb, .func (.func sf) #[] sb] 75)) blk off d wr)
    (fun vi vj _ _ => (intOf vj).toNat - (intOf vi).toNat)
  case atStart => exact ⟨m, b, rfl, rfl, Nat.le_refl _, by omega, Nat.le_refl _, .inl rfl, .inl rfl, SW.start hH1⟩
  case round =>
    obtain ⟨i, j, rfl, rfl, hi, hij, hj, h1, h2, hW⟩ := hrel
    have HW := Aside0.mk hW
    have H1 := Aside0.mk h1
    have H2 := Aside0.mk h2
    have c0 := SW.cell hW w.heap.size 0 (.func (.func g) #[] lb) (by simp) (by omega) (by simp)
    clear hW h1 h2
    by_cases hlt : i < j
    · have hh : (((i + j) / 2 : Nat) : Int) = ((i : Int) + j) / 2 := by omega
      have hl := HW.out.less hless1.out rfl ((i + j) / 2) a (by omega) (by omega)
      rw [hh] at hl
      have HH := Aside0.mk hh
      clear hh
      cases hlv : lt d[(i + j) / 2]! d[a]! with
      | true =>
        rw [hlv] at hl
        go_wp2_with (go_at_fn g; refine hl.mono ?_; rintro e w' ⟨rfl, q, rfl⟩)
        go_roundw
        case rel => exact ⟨(i + j) / 2 + 1, j, by rw [← HH.out]; go_num, rfl, by omega, by omega, hj, .inr hlv, H2.out, HW.out.drewN q⟩
        case measure => simp [intOf]; omega
      | false =>
        rw [hlv] at hl
        go_wp2_with (go_at_fn g; refine hl.mono ?_; rintro e w' ⟨rfl, q, rfl⟩)
        go_roundw
        case rel => exact ⟨i, (i + j) / 2, rfl, by rw [← HH.out], by omega, by omega, by omega, H1.out, .inr hlv, HW.out.drewN q⟩
        case measure => simp [intOf]; omega
    · obtain rfl : i = j := by omega
      have hi2 : m ≤ i := hi
      go_wp2
      go_loopw [11] (fun vk wr2 => ∃ (k : Nat) (dk : Array α), vk = .int .i64 k ∧ a ≤ k ∧ k + 1 ≤ i ∧ Rot a (a + 1) (k + 1) d dk ∧ PermIn a b d dk ∧ SW enc (w.alloc (.cells #[.func (.func g) #[] lb, .func (.func sf) #[] sb] 75)) blk off dk wr2)
        (fun vk _ => i - (intOf vk).toNat)
      case atStart => exact ⟨a, d, rfl, Nat.le_refl _, by omega, Rot.none_right _ _ _, permIn_refl _ _ _, HW.out⟩
      case round =>
        obtain ⟨k, dk, rfl, hak, hki, hR, hQ, hW⟩ := hrel
        have HR := Aside0.mk hR
        have HQ := Aside0.mk hQ
        have HW2 := Aside0.mk hW
        have hsk : dk.size = d.size := hR.1
        have c1 := SW.cell hW w.heap.size 1 (.func (.func sf) #[] sb) (by simp) (by omega) (by simp)
        clear hR hQ hW
        by_cases hk : k + 1 < i
        · have hs := hswap wr dk (HW2.out.holds hbw1 hH1 hsk) hsk k (k + 1) (by omega) (by omega)
          simp only [Int.natCast_add, Int.cast_ofNat_Int] at hs
          go_wp2
          exact ⟨⟨k + 1, swp dk k (k + 1), by go_num, by omega, by omega, Rot.bubble_up HR.out hak (by omega), permIn_trans _ _ _ _ _ HQ.out (swp_permIn _ _ _ _ _ hak (by omega) (by omega) (by omega) (by omega)), SW.swap HW2.out hbw1 k (k + 1) (by omega) (by omega)⟩, by simp [intOf]; omega⟩
        · go_wp2
          refine bodyPost_ret (results_none rfl _ _ _) rfl ?_
          obtain rfl : k + 1 = i := by omega
          have e1 := HAM.out
          subst e1
          refine ⟨rfl, dk, HQ.out, ins_left hO sR (by omega) hj ?_ ?_ HR.out, SW.of_alloc HW2.out hblk⟩
          · rcases H1.out with h | h
            · exact .inl h
            · by_cases h3 : k + 1 = a + 1
              · exact .inl h3
              · exact .inr (by rw [← hP a (k + 1 - 1) (Nat.le_refl _) (by omega) (by omega) (by omega)]; exact h)
          · rcases H2.out with h | h
            · exact .inl h
            · by_cases h3 : k + 1 = b
              · exact .inl h3
              · exact .inr (by rw [← hP a (k + 1) (Nat.le_refl _) (by omega) (by omega) (by omega)]; exact h)

set_option maxHeartbeats 4000000 in
set_option maxRecDepth 100000 in
/-- One element to the right: it is put in its place among the left ones. -/
theorem sym_right (enc : α → Value) (lt tot : α → α → Bool) (hO : SWO tot) (g : Nat) (lb : Array Value) (sf : Nat) (sb : Array Value) (blk off a m b : Nat) (d : Array α) (w : World)
    (eg : ∀ args w, (callFunc g args).run Try.prog w = .ok (.enter g args) w) (hless : LessReads Try.prog g lb enc lt blk off d.size w)
    (hswap : SwapSwaps Try.prog sf sb enc blk off d.size) (hH : Holds enc w blk off d) (hblk : blk < w.heap.size) (ham : a + 1 < m) (hmb : b = m + 1) (hb : b ≤ d.size) (hsz : d.size < 4611686018427387904)
    (sL : SortedIn tot a m d) (hP : Pre lt tot a m b d) :
    Calls Try.prog 58 #[.agg #[.func (.func g) #[] lb, .func (.func sf) #[] sb], .int .i64 a, .int .i64 m, .int .i64 b] w fun e w' =>
      e = .returned (.tuple #[]) ∧ ∃ d', PermIn a b d d' ∧ SortedIn tot a b d' ∧ SW enc w blk off d' w' := by
  have hH1 : Holds enc (w.alloc (.cells #[.func (.func g) #[] lb, .func (.func sf) #[] sb] 75)) blk off d := by rw [alloc_eq_grow]; exact holds_grow enc w _ blk off d hblk hH
  have hW0 := (SW.start hH).alloc (.cells #[.func (.func g) #[] lb, .func (.func sf) #[] sb] 75)
  have hless1 := Aside0.mk (hW0.lessReads hless hblk rfl)
  have hbw1 : blk < (w.alloc (.cells #[.func (.func g) #[] lb, .func (.func sf) #[] sb] 75)).heap.size := by simp; omega
  clear hless hW0
  have hma : ((m : Int) - a == 1) = false := by rw [beq_eq_false_iff_ne]; omega
  have hmc : ((b : Int) - m == 1) = true := by rw [beq_iff_eq]; omega
  have HMB := Aside0.mk hmb
  have hmb2 : m < b := by omega
  clear hmb
  go_enter Try.func58, Try.ntmps58
  go_wp2
  go_loopw [12, 13, 14] (fun vi vj _ wr => ∃ (i j : Nat), vi = .int .i64 i ∧ vj = .int .i64 j ∧ a ≤ i ∧ i ≤ j ∧ j ≤ m ∧ (i = a ∨ lt d[m]! d[i - 1]! = false) ∧ (j = m ∨ lt d[m]! d[j]! = true) ∧ SW enc (w.alloc (.cells #[.func (.func g) #[] lb, .func (.func sf) #[] sb] 75)) blk off d wr)
    (fun vi vj _ _ => (intOf vj).toNat - (intOf vi).toNat)
  case atStart => exact ⟨a, m, rfl, rfl, Nat.le_refl _, by omega, Nat.le_refl _, .inl rfl, .inl rfl, SW.start hH1⟩
  case round =>
    obtain ⟨i, j, rfl, rfl, hi, hij, hj, h1, h2, hW⟩ := hrel
    have HW := Aside0.mk hW
    have H1 := Aside0.mk h1
    have H2 := Aside0.mk h2
    have c0 := SW.cell hW w.heap.size 0 (.func (.func g) #[] lb) (by simp) (by omega) (by simp)
    clear hW h1 h2
    by_cases hlt : i < j
    · have hh : (((i + j) / 2 : Nat) : Int) = ((i : Int) + j) / 2 := by omega
      have hl := HW.out.less hless1.out rfl m ((i + j) / 2) (by omega) (by omega)
      rw [hh] at hl
      have HH := Aside0.mk hh
      clear hh
      cases hlv : lt d[m]! d[(i + j) / 2]! with
      | true =>
        rw [hlv] at hl
        go_wp2_with (go_at_fn g; refine hl.mono ?_; rintro e w' ⟨rfl, q, rfl⟩)
        go_roundw
        case rel => exact ⟨i, (i + j) / 2, rfl, by rw [← HH.out], by omega, by omega, by omega, H1.out, .inr hlv, HW.out.drewN q⟩
        case measure => simp [intOf]; omega
      | false =>
        rw [hlv] at hl
        go_wp2_with (go_at_fn g; refine hl.mono ?_; rintro e w' ⟨rfl, q, rfl⟩)
        go_roundw
        case rel => exact ⟨(i + j) / 2 + 1, j, by rw [← HH.out]; go_num, rfl, by omega, by omega, hj, .inr hlv, H2.out, HW.out.drewN q⟩
        case measure => simp [intOf]; omega
    · obtain rfl : i = j := by omega
      have hi2 : a ≤ i := hi
      go_wp2
      go_loopw [15] (fun vk wr2 => ∃ (k : Nat) (dk : Array α), vk = .int .i64 k ∧ i ≤ k ∧ k ≤ m ∧ Rot k m (m + 1) d dk ∧ PermIn a b d dk ∧ SW enc (w.alloc (.cells #[.func (.func g) #[] lb, .func (.func sf) #[] sb] 75)) blk off dk wr2)
        (fun vk _ => (intOf vk).toNat)
      case atStart => exact ⟨m, d, rfl, by omega, Nat.le_refl _, Rot.none_left _ _ _, permIn_refl _ _ _, HW.out⟩
      case round =>
        obtain ⟨k, dk, rfl, hik, hkm, hR, hQ, hW⟩ := hrel
        have HR := Aside0.mk hR
        have HQ := Aside0.mk hQ
        have HW2 := Aside0.mk hW
        have hsk : dk.size = d.size := hR.1
        have c1 := SW.cell hW w.heap.size 1 (.func (.func sf) #[] sb) (by simp) (by omega) (by simp)
        clear hR hQ hW
        by_cases hk : i < k
        · have hs := hswap wr dk (HW2.out.holds hbw1 hH1 hsk) hsk k (k - 1) (by omega) (by omega)
          rw [show (((k - 1 : Nat) : Int)) = (k : Int) - 1 by omega] at hs
          go_wp2
          exact ⟨⟨k - 1, swp dk k (k - 1), by congr 1; omega, by omega, by omega, Rot.bubble_down HR.out (by omega) hkm (by omega), permIn_trans _ _ _ _ _ HQ.out (swp_permIn _ _ _ _ _ (by omega) (by omega) (by omega) (by omega) (by omega)), SW.swap HW2.out hbw1 k (k - 1) (by omega) (by omega)⟩, by simp [intOf]; omega⟩
        · go_wp2
          refine bodyPost_ret (results_none rfl _ _ _) rfl ?_
          obtain rfl : k = i := by omega
          have e1 := HMB.out
          subst e1
          refine ⟨rfl, dk, HQ.out, ins_right hO sL hi hj ?_ ?_ HR.out, SW.of_alloc HW2.out hblk⟩
          · rcases H1.out with h | h
            · exact .inl h
            · by_cases h3 : k = a
              · exact .inl h3
              · exact .inr (by rw [← hP (k - 1) m (by omega) (by omega) (by omega) (by omega)]; exact h)
          · rcases H2.out with h | h
            · exact .inl h
            · by_cases h3 : k = m
              · exact .inl h3
              · exact .inr (by rw [← hP k m (by omega) (by omega) (by omega) (by omega)]; exact h)
end Go.Proofs.Yticocjpfhllelaa.XP
