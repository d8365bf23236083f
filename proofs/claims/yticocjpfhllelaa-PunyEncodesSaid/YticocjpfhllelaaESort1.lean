/- The walks of sort.swapRange_func, sort.insertionSort_func and sort.rotate_func. -/
import Derived.Test.YticocjpfhllelaaXP0
import Derived.Test.YticocjpfhllelaaESort0
import Derived.WalkKit
import Derived.BigCall
import Derived.BigGuard
namespace Go.Proofs.Yticocjpfhllelaa.XP
open Go.Shelf Go.RowKit Go.Lib Go.Sort Go.Proofs.StableSort Go.Proofs.YticocjpfhllelaaW.PrintWords Go.Proofs.YticocjpfhllelaaW.PrintLast
variable {α : Type} [Inhabited α]

set_option maxHeartbeats 2000000 in
set_option maxRecDepth 100000 in
theorem swr_calls (enc : α → Value) (g : Nat) (lb : Array Value) (sf : Nat) (sb : Array Value) (blk off a b n : Nat) (d : Array α) (w : World)
    (hswap : SwapSwaps Try.prog sf sb enc blk off d.size) (hH : Holds enc w blk off d) (hblk : blk < w.heap.size) (hab : a + n ≤ b) (hb : b + n ≤ d.size) (hsz : d.size < 4611686018427387904) :
    Calls Try.prog 60 #[.agg #[.func (.func g) #[] lb, .func (.func sf) #[] sb], .int .i64 a, .int .i64 b, .int .i64 n] w fun e w' =>
      e = .returned (.tuple #[]) ∧ ∃ d', SwR a b n d d' ∧ SW enc w blk off d' w' := by
  have hH1 : Holds enc (w.alloc (.cells #[.func (.func g) #[] lb, .func (.func sf) #[] sb] 75)) blk off d := by rw [alloc_eq_grow]; exact holds_grow enc w _ blk off d hblk hH
  go_enter Try.func60, Try.ntmps60
  go_wp2
  go_loopw [8] (fun vi wr => ∃ (i : Nat) (dk : Array α), vi = .int .i64 i ∧ i ≤ n ∧ SwR a b i d dk ∧ SW enc (w.alloc (.cells #[.func (.func g) #[] lb, .func (.func sf) #[] sb] 75)) blk off dk wr) (fun vi _ => n - (intOf vi).toNat)
  case atStart => exact ⟨0, d, rfl, by omega, SwR.start _ _ _, SW.start hH1⟩
  case round =>
    obtain ⟨i, dk, rfl, hin, hR, hW⟩ := hrel
    have HR := Aside0.mk hR
    have HW := Aside0.mk hW
    have c1 := SW.cell hW w.heap.size 1 (.func (.func sf) #[] sb) (by simp) (by omega) (by simp)
    have hHw := hW.holds (by simp; omega) hH1 hR.size
    have hsk := hR.size
    clear hR hW
    go_wp2
    · have hlt : i < n := by assumption
      have hs := hswap wr dk hHw hsk (a + i) (b + i) (by omega) (by omega)
      simp only [Int.natCast_add] at hs
      rw [hs, Oper.upon_value]
      go_wp2
      go_roundw
      case rel =>
        exact ⟨i + 1, swp dk (a + i) (b + i), by go_num, by omega, SwR.step HR.out (by omega) (by omega), SW.swap HW.out (by simp; omega) (a + i) (b + i) (by omega) (by omega)⟩
      case measure => simp [intOf]; omega
    · have : i = n := by omega
      subst this
      go_end0
      exact ⟨rfl, dk, HR.out, SW.of_alloc HW.out hblk⟩

set_option maxHeartbeats 2000000 in
set_option maxRecDepth 100000 in
theorem rot_calls (enc : α → Value) (g : Nat) (lb : Array Value) (sf : Nat) (sb : Array Value) (blk off a m b : Nat) (d : Array α) (w : World)
    (hswap : SwapSwaps Try.prog sf sb enc blk off d.size) (hH : Holds enc w blk off d) (hblk : blk < w.heap.size) (ham : a < m) (hmb : m < b) (hb : b ≤ d.size) (hsz : d.size < 4611686018427387904) :
    Calls Try.prog 59 #[.agg #[.func (.func g) #[] lb, .func (.func sf) #[] sb], .int .i64 a, .int .i64 m, .int .i64 b] w fun e w' =>
      e = .returned (.tuple #[]) ∧ ∃ d', Rot a m b d d' ∧ PermIn a b d d' ∧ SW enc w blk off d' w' := by
  have hH1 : Holds enc (w.alloc (.cells #[.func (.func g) #[] lb, .func (.func sf) #[] sb] 75)) blk off d := by rw [alloc_eq_grow]; exact holds_grow enc w _ blk off d hblk hH
  go_enter Try.func59, Try.ntmps59
  go_wp2
  go_loopw [8, 9] (fun vi vj wr => ∃ (i j : Nat) (dk : Array α), vi = .int .i64 i ∧ vj = .int .i64 j ∧ 0 < i ∧ i ≤ m - a ∧ 0 < j ∧ j ≤ b - m ∧ dk.size = d.size ∧ PermIn a b d dk ∧ (∀ d', Rot (m - i) m (m + j) dk d' → Rot a m b d d') ∧ SW enc (w.alloc (.cells #[.func (.func g) #[] lb, .func (.func sf) #[] sb] 75)) blk off dk wr) (fun vi vj _ => (intOf vi).toNat + (intOf vj).toNat)
  case atStart => exact ⟨m - a, b - m, d, by go_num, by go_num, by omega, by omega, by omega, by omega, rfl, permIn_refl _ _ _, fun d' h => by rw [show m - (m - a) = a by omega, show m + (b - m) = b by omega] at h; exact h, SW.start hH1⟩
  case round =>
    obtain ⟨i, j, dk, rfl, rfl, hi0, hi, hj0, hj, hsk, hP, hR, hW⟩ := hrel
    have HR := Aside0.mk hR
    have HW := Aside0.mk hW
    have HP := Aside0.mk hP
    have c0 := SW.cell hW w.heap.size 0 (.func (.func g) #[] lb) (by simp) (by omega) (by simp)
    have c1 := SW.cell hW w.heap.size 1 (.func (.func sf) #[] sb) (by simp) (by omega) (by simp)
    have hHw := hW.holds (by simp; omega) hH1 hsk
    have hbw : blk < wr.heap.size := hW.lt (by simp; omega)
    clear hR hW hP
    have W2 : ∀ (d2 : Array α) (w2 : World), d2.size = dk.size → SW enc wr blk off d2 w2 → SW enc (w.alloc (.cells #[.func (.func g) #[] lb, .func (.func sf) #[] sb] 75)) blk off d2 w2 := fun d2 w2 hs h => SW.trans HW.out h (by simp; omega) hs
    have W2 := Aside0.mk W2
    rw [← hsk] at hswap
    rcases Nat.lt_trichotomy i j with hij | hij | hij
    · have hc := swr_calls enc g lb sf sb blk off (m - i) (m + j - i) i dk wr hswap hHw hbw (by omega) (by omega) (by omega)
      rw [show ((m - i : Nat) : Int) = (m : Int) - i by omega, show ((m + j - i : Nat) : Int) = (m : Int) + j - i by omega] at hc
      go_wp2_with (go_at_call 60; refine hc.mono ?_; rintro e w2 ⟨rfl, d2, hR2, hW2⟩)
      go_roundw
      case rel =>
        exact ⟨i, j - i, d2, rfl, by congr 1; omega, hi0, hi, by omega, by omega, hR2.size.trans hsk, permIn_trans _ _ _ _ _ HP.out (permIn_mono _ _ (m - i) (m + j - i + i) _ _ (by omega) (by omega) (by omega) hR2.perm), fun d' h => HR.out d' (Rot.right hR2 (by omega) hij h), W2.out d2 w2 hR2.size hW2⟩
      case measure => simp [intOf]; omega
    · subst hij
      have hc := swr_calls enc g lb sf sb blk off (m - i) m i dk wr hswap hHw hbw (by omega) (by omega) (by omega)
      rw [show ((m - i : Nat) : Int) = (m : Int) - i by omega] at hc
      go_wp2_with (go_at_call 60; refine hc.mono ?_; rintro e w2 ⟨rfl, d2, hR2, hW2⟩)
      go_end0
      exact ⟨rfl, d2, HR.out d2 (Rot.equal hR2 (by omega)), permIn_trans _ _ _ _ _ HP.out (permIn_mono _ _ (m - i) (m + i) _ _ (by omega) (by omega) (by omega) hR2.perm), SW.of_alloc (W2.out d2 w2 hR2.size hW2) hblk⟩
    · have hc := swr_calls enc g lb sf sb blk off (m - i) m j dk wr hswap hHw hbw (by omega) (by omega) (by omega)
      rw [show ((m - i : Nat) : Int) = (m : Int) - i by omega] at hc
      go_wp2_with (go_at_call 60; refine hc.mono ?_; rintro e w2 ⟨rfl, d2, hR2, hW2⟩)
      go_roundw
      case rel =>
        exact ⟨i - j, j, d2, by congr 1; omega, rfl, by omega, by omega, hj0, hj, hR2.size.trans hsk, permIn_trans _ _ _ _ _ HP.out (permIn_mono _ _ (m - i) (m + j) _ _ (by omega) (by omega) (by omega) hR2.perm), fun d' h => HR.out d' (Rot.left hR2 (by omega) hij h), W2.out d2 w2 hR2.size hW2⟩
      case measure => simp [intOf]; omega
end Go.Proofs.Yticocjpfhllelaa.XP
/-! The walk of sort.insertionSort_func. -/
namespace Go.Proofs.Yticocjpfhllelaa.XP
open Go.Shelf Go.RowKit Go.Lib Go.Sort Go.Proofs.StableSort Go.Proofs.YticocjpfhllelaaW.PrintWords Go.Proofs.YticocjpfhllelaaW.PrintLast
variable {α : Type} [Inhabited α]

set_option maxHeartbeats 2000000 in
set_option maxRecDepth 100000 in
theorem ins_calls (enc : α → Value) (lt : α → α → Bool) (g : Nat) (lb : Array Value) (sf : Nat) (sb : Array Value) (blk off a b : Nat) (d : Array α) (w : World)
    (eg : ∀ args w, (callFunc g args).run Try.prog w = .ok (.enter g args) w) (hless : LessReads Try.prog g lb enc lt blk off d.size w)
    (hswap : SwapSwaps Try.prog sf sb enc blk off d.size) (hH : Holds enc w blk off d) (hblk : blk < w.heap.size) (hab : a ≤ b) (hb : b ≤ d.size) (hsz : d.size < 4611686018427387904) :
    Calls Try.prog 57 #[.agg #[.func (.func g) #[] lb, .func (.func sf) #[] sb], .int .i64 a, .int .i64 b] w fun e w' =>
      e = .returned (.tuple #[]) ∧ SW enc w blk off (Sort.insertionSort lt d a b) w' := by
  have hH1 : Holds enc (w.alloc (.cells #[.func (.func g) #[] lb, .func (.func sf) #[] sb] 75)) blk off d := by rw [alloc_eq_grow]; exact holds_grow enc w _ blk off d hblk hH
  have hW0 := (SW.start hH).alloc (.cells #[.func (.func g) #[] lb, .func (.func sf) #[] sb] 75)
  have hless1 := Aside0.mk (hW0.lessReads hless hblk rfl)
  have hbw1 : blk < (w.alloc (.cells #[.func (.func g) #[] lb, .func (.func sf) #[] sb] 75)).heap.size := by simp; omega
  clear hless hW0
  go_enter Try.func57, Try.ntmps57
  go_wp2
  go_loopw [6] (fun vi wr => ∃ (i : Nat) (dk : Array α), vi = .int .i64 i ∧ a < i ∧ i ≤ b + 1 ∧ dk.size = d.size ∧ SW enc (w.alloc (.cells #[.func (.func g) #[] lb, .func (.func sf) #[] sb] 75)) blk off dk wr ∧
      insOuter lt a b i dk = insOuter lt a b (a + 1) d) (fun vi _ => b + 1 - (intOf vi).toNat)
  case atStart => exact ⟨a + 1, d, by go_num, by omega, by omega, rfl, SW.start hH1, rfl⟩
  case round =>
    obtain ⟨i, dk, rfl, hai, hib, hsk, hW, hO⟩ := hrel
    have HO := Aside0.mk hO
    have HW0 := Aside0.mk hW
    clear hO hW
    go_wp2
    · -- i < b: the inner loop
      go_loopw [7] (fun vj wr2 => ∃ (j : Nat) (dj : Array α), vj = .int .i64 j ∧ a ≤ j ∧ j ≤ i ∧ dj.size = d.size ∧ SW enc (w.alloc (.cells #[.func (.func g) #[] lb, .func (.func sf) #[] sb] 75)) blk off dj wr2 ∧
          insInner lt a j dj = insInner lt a i dk) (fun vj _ => (intOf vj).toNat)
      case atStart => exact ⟨i, dk, rfl, by omega, Nat.le_refl _, hsk, HW0.out, rfl⟩
      case round =>
        obtain ⟨j, dj, rfl, haj, hji, hsj, hW, hI⟩ := hrel
        have hlt : i < b := by assumption
        have HW := Aside0.mk hW
        have HI := Aside0.mk hI
        have cc : ∀ k v, ((w.alloc (.cells #[.func (.func g) #[] lb, .func (.func sf) #[] sb] 75))).cell? ⟨w.heap.size, k, none⟩ = some v → ∀ q, (wr.drewN q).cell? ⟨w.heap.size, k, none⟩ = some v := fun k v h q => SW.cell (hW.drewN q) w.heap.size k v (by simp) (by omega) h
        have c0 := cc 0 (.func (.func g) #[] lb) (by simp)
        have c1 := cc 1 (.func (.func sf) #[] sb) (by simp)
        have c0' : wr.cell? ⟨w.heap.size, 0, none⟩ = some (.func (.func g) #[] lb) := c0 0
        clear hW hI cc
        have out : (j ≤ a ∨ lt dj[j]! dj[j - 1]! = false) → ∀ q, ∃ (i' : Nat) (dk' : Array α), Value.int .i64 ((i : Int) + 1) = .int .i64 (i' : Nat) ∧ a < i' ∧ i' ≤ b + 1 ∧ dk'.size = d.size ∧
            SW enc (w.alloc (.cells #[.func (.func g) #[] lb, .func (.func sf) #[] sb] 75)) blk off dk' (wr.drewN q) ∧ insOuter lt a b i' dk' = insOuter lt a b (a + 1) d := fun hs q =>
          ⟨i + 1, dj, by go_num, by omega, by omega, hsj, HW.out.drewN q,
            by rw [← HO.out, insOuter_go _ _ _ _ _ hlt, ← HI.out, insInner_stop _ _ _ _ hs]⟩
        have OUT := Aside0.mk out
        clear out
        by_cases hja : a < j
        · have hl := HW.out.less hless1.out hsj j (j - 1) (by omega) (by omega)
          rw [show (((j - 1 : Nat) : Int)) = (j : Int) - 1 by omega] at hl
          cases hlv : lt dj[j]! dj[j - 1]! with
          | true =>
            rw [hlv] at hl
            go_wp2_with (go_at_fn g; refine hl.mono ?_; rintro e w' ⟨rfl, q, rfl⟩)
            have hs := hswap (wr.drewN q) dj ((HW.out.drewN q).holds hbw1 hH1 hsj) hsj j (j - 1) (by omega) (by omega)
            rw [show (((j - 1 : Nat) : Int)) = (j : Int) - 1 by omega] at hs
            rw [hs, Oper.upon_value]
            go_wp2
            go_roundw
            case rel =>
              (repeat apply Exists.intro)
              refine ⟨⟨j - 1, swp dj j (j - 1), by congr 1 <;> omega, by omega, by omega, by rw [size_swp]; exact hsj, ?_, ?_⟩, by rw [decide_eq_true hlt, show ((j - 1 : Nat) : Int) = (j : Int) - 1 by omega]⟩
              · exact SW.swap (HW.out.drewN q) hbw1 j (j - 1) (by omega) (by omega)
              · rw [← HI.out, insInner_go lt a j dj hja hlv]
            case measure => simp [intOf]; omega
          | false =>
            rw [hlv] at hl
            go_wp2_with (go_at_fn g; refine hl.mono ?_; rintro e w' ⟨rfl, q, rfl⟩)
            go_roundw
            case rel => exact OUT.out (Or.inr hlv) q
            case measure => simp [intOf]; omega
        · go_wp2
          go_roundw
          case rel => exact OUT.out (Or.inl (by omega)) 0
          case measure => simp [intOf]; omega
    · -- the outer loop is at its end
      have hge : ¬ i < b := by assumption
      go_end0
      refine ⟨rfl, ?_⟩
      unfold Sort.insertionSort
      rw [← HO.out, insOuter_stop _ _ _ _ _ hge]
      exact SW.of_alloc HW0.out hblk
end Go.Proofs.Yticocjpfhllelaa.XP
