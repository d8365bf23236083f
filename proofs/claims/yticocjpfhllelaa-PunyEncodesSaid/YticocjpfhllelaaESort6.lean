/- The walk of sort.stable_func: blocks of twenty are sorted, then merged in pairs. -/
import Derived.Test.YticocjpfhllelaaESort1
import Derived.Test.YticocjpfhllelaaESort0
import Derived.Sort.AtCall
namespace Go.Proofs.Yticocjpfhllelaa.XP
open Go.Shelf Go.RowKit Go.Lib Go.Sort Go.Proofs.StableSort Go.Proofs.YticocjpfhllelaaW.PrintWords Go.Proofs.YticocjpfhllelaaW.PrintLast
variable {α : Type} [Inhabited α]

set_option maxHeartbeats 8000000 in
set_option maxRecDepth 100000 in
theorem stable_of (enc : α → Value) (lt tot : α → α → Bool) (hO : SWO tot) (g : Nat) (lb : Array Value) (sf : Nat) (sb : Array Value) (blk off : Nat) (d : Array α) (w : World)
    (eg : ∀ args w, (callFunc g args).run Try.prog w = .ok (.enter g args) w) (hless : LessReads Try.prog g lb enc lt blk off d.size w)
    (hswap : SwapSwaps Try.prog sf sb enc blk off d.size) (hH : Holds enc w blk off d) (hblk : blk < w.heap.size) (hsz : d.size < 1152921504606846976)
    (hsym : ∀ (a m b : Nat) (d1 : Array α) (w1 : World), LessReads Try.prog g lb enc lt blk off d.size w1 → Holds enc w1 blk off d1 → blk < w1.heap.size → a < m → m < b → b ≤ d1.size → d1.size = d.size →
      SortedIn tot a m d1 → SortedIn tot m b d1 → Pre lt tot a m b d1 →
      Calls Try.prog 58 #[.agg #[.func (.func g) #[] lb, .func (.func sf) #[] sb], .int .i64 a, .int .i64 m, .int .i64 b] w1 fun e w' =>
        e = .returned (.tuple #[]) ∧ ∃ d', PermIn a b d1 d' ∧ SortedIn tot a b d' ∧ SW enc w1 blk off d' w')
    (hst : Stab lt tot 0 d.size d) :
    Calls Try.prog 42 #[.agg #[.func (.func g) #[] lb, .func (.func sf) #[] sb], .int .i64 d.size] w fun e w' =>
      e = .returned (.tuple #[]) ∧ ∃ d', PermIn 0 d.size d d' ∧ SortedIn tot 0 d.size d' ∧ SW enc w blk off d' w' := by
  have hH1 : Holds enc (w.alloc (.cells #[.func (.func g) #[] lb, .func (.func sf) #[] sb] 75)) blk off d := by rw [alloc_eq_grow]; exact holds_grow enc w _ blk off d hblk hH
  have hW0 := (SW.start hH).alloc (.cells #[.func (.func g) #[] lb, .func (.func sf) #[] sb] 75)
  have hless1 := Aside0.mk (hW0.lessReads hless hblk rfl)
  have hbw1 : blk < (w.alloc (.cells #[.func (.func g) #[] lb, .func (.func sf) #[] sb] 75)).heap.size := by simp; omega
  clear hless hW0
  obtain ⟨n, hn⟩ : ∃ n, d.size = n := ⟨_, rfl⟩
  rw [hn] at hless1 hswap hsym hst hsz ⊢
  have HINS : Aside0 (∀ (dk : Array α) (wr : World) (p q : Nat), SW enc (w.alloc (.cells #[.func (.func g) #[] lb, .func (.func sf) #[] sb] 75)) blk off dk wr → dk.size = n → p ≤ q → q ≤ n → Stab lt tot p q dk →
      Calls Try.prog 57 #[.agg #[.func (.func g) #[] lb, .func (.func sf) #[] sb], .int .i64 p, .int .i64 q] wr fun e w' => e = .returned (.tuple #[]) ∧ ∃ d', PermIn p q dk d' ∧ SortedIn tot p q d' ∧ SW enc (w.alloc (.cells #[.func (.func g) #[] lb, .func (.func sf) #[] sb] 75)) blk off d' w') :=
    ⟨fun dk wr p q hV hk hpq hqn hS => by
      have hl := hV.lessReads hless1.out hbw1 hk
      rw [← hk] at hl
      refine (ins_calls enc lt g lb sf sb blk off p q dk wr eg hl (by rw [hk]; exact hswap) (hV.holds hbw1 hH1 (hk.trans hn.symm)) (hV.lt hbw1) hpq (by omega) (by omega)).mono ?_
      rintro e w' ⟨rfl, hV2⟩
      have h2 := insertion_tot hO hpq (by omega) hS
      exact ⟨rfl, _, h2.1, h2.2, SW.trans hV hV2 hbw1 (h2.1.1)⟩⟩
  have HSYM : Aside0 (∀ (dk : Array α) (wr : World) (a m b : Nat), SW enc (w.alloc (.cells #[.func (.func g) #[] lb, .func (.func sf) #[] sb] 75)) blk off dk wr → dk.size = n → a < m → m < b → b ≤ n → SortedIn tot a m dk → SortedIn tot m b dk → Pre lt tot a m b dk →
      Calls Try.prog 58 #[.agg #[.func (.func g) #[] lb, .func (.func sf) #[] sb], .int .i64 a, .int .i64 m, .int .i64 b] wr fun e w' => e = .returned (.tuple #[]) ∧ ∃ d', PermIn a b dk d' ∧ SortedIn tot a b d' ∧ SW enc (w.alloc (.cells #[.func (.func g) #[] lb, .func (.func sf) #[] sb] 75)) blk off d' w') :=
    ⟨fun dk wr a m b hV hk ham hmb hbn s1 s2 p1 => by
      refine (hsym a m b dk wr (hV.lessReads hless1.out hbw1 hk) (hV.holds hbw1 hH1 (hk.trans hn.symm)) (hV.lt hbw1) ham hmb (by omega) hk s1 s2 p1).mono ?_
      rintro e w' ⟨rfl, d', h1, h2, hV2⟩
      exact ⟨rfl, d', h1, h2, SW.trans hV hV2 hbw1 h1.1⟩⟩
  have HST : Aside0 (Stab lt tot 0 n d) := ⟨hst⟩
  have hwne : w.heap.size ≠ blk := by omega
  clear hsym hst hswap
  go_enter Try.func42, Try.ntmps42
  go_wp2
  go_loopw [5, 6] (fun v5 v6 wr => ∃ (k : Nat) (dk : Array α), v5 = .int .i64 ((k : Int) * 20) ∧ v6 = .int .i64 ((k : Int) * 20 + 20) ∧ k * 20 ≤ n ∧ dk.size = n ∧ Aside0 (SW enc (w.alloc (.cells #[.func (.func g) #[] lb, .func (.func sf) #[] sb] 75)) blk off dk wr) ∧ Aside0 (J1 lt tot n k d dk))
    (fun v5 _ _ => n + 20 - (intOf v5).toNat)
  case atStart => exact ⟨0, d, rfl, rfl, by omega, hn, ⟨SW.start hH1⟩, ⟨J1.start HST.out⟩⟩
  case round =>
    obtain ⟨k, dk, rfl, rfl, hk, hdk, HW, HJ⟩ := hrel
    have c0 := SW.cell HW.out w.heap.size 0 (.func (.func g) #[] lb) (by simp) hwne (by simp)
    have c1 := SW.cell HW.out w.heap.size 1 (.func (.func sf) #[] sb) (by simp) hwne (by simp)
    by_cases hb : k * 20 + 20 ≤ n
    · have hcall := HINS.out dk wr (k * 20) (k * 20 + 20) HW.out hdk (by omega) hb (fun i j h1 h2 h3 => HJ.out.stab i j h1 h2 (by omega))
      rw [show ((k * 20 : Nat) : Int) = (k : Int) * 20 by omega, show ((k * 20 + 20 : Nat) : Int) = (k : Int) * 20 + 20 by omega] at hcall
      go_wp2_with (go_at_call 57; refine hcall.mono ?_; rintro e w1 ⟨rfl, d1, hp1, hs1, hV1⟩; have HV1 := Aside0.mk hV1; have HP1 := Aside0.mk hp1; have HS1 := Aside0.mk hs1; clear hV1 hp1 hs1)
      go_roundw
      case rel => exact ⟨k + 1, d1, by congr 1; omega, by congr 1; omega, by omega, HP1.out.1.trans hdk, HV1, ⟨HJ.out.step hdk hb HP1.out HS1.out⟩⟩
      case measure => simp [intOf]; omega
    · have hcall := HINS.out dk wr (k * 20) n HW.out hdk (by omega) (Nat.le_refl _) HJ.out.stab
      rw [show ((k * 20 : Nat) : Int) = (k : Int) * 20 by omega] at hcall
      go_wp2_with (go_at_call 57; refine hcall.mono ?_; rintro e w1 ⟨rfl, d1, hp1, hs1, hV1⟩; have HV1 := Aside0.mk hV1; have HJ1 := Aside0.mk (HJ.out.last hdk hk (by omega) hp1 hs1); have hd1 : d1.size = n := hp1.1.trans hdk; clear hV1 hp1 hs1 c0 c1)
      clear hcall HW HJ hb hk
      go_loopw [4] (fun v4 wr => ∃ (s : Nat) (dk : Array α), v4 = .int .i64 s ∧ 20 ≤ s ∧ s ≤ 2 * n + 20 ∧ dk.size = n ∧ Aside0 (SW enc (w.alloc (.cells #[.func (.func g) #[] lb, .func (.func sf) #[] sb] 75)) blk off dk wr) ∧ Aside0 (J2 lt tot n s 0 d dk))
        (fun v4 _ => n - (intOf v4).toNat)
      case atStart => exact ⟨20, d1, rfl, Nat.le_refl _, by omega, hd1, HV1, HJ1⟩
      case round =>
        obtain ⟨s, ds, rfl, hs20, hsn2, hds, HW, HJ⟩ := hrel
        clear HV1 HJ1 hd1
        by_cases hsn : s < n
        · go_wp2
          go_loopw [5, 6] (fun v5 v6 wr => ∃ (a k : Nat) (dk : Array α), v5 = .int .i64 a ∧ v6 = .int .i64 ((a : Int) + 2 * s) ∧ a ≤ n ∧ dk.size = n ∧ Aside0 (a = k * (2 * s)) ∧ Aside0 (SW enc (w.alloc (.cells #[.func (.func g) #[] lb, .func (.func sf) #[] sb] 75)) blk off dk wr) ∧ Aside0 (J2 lt tot n s k d dk))
            (fun v5 _ _ => n + 1 - (intOf v5).toNat)
          case atStart => exact ⟨0, 0, ds, by rfl, by congr 1; omega, by omega, hds, ⟨by simp⟩, HW, HJ⟩
          case round =>
            obtain ⟨a, k, dk, rfl, rfl, han, hdk, HA, HW2, HJ2⟩ := hrel
            clear HW HJ
            have c0 := SW.cell HW2.out w.heap.size 0 (.func (.func g) #[] lb) (by simp) hwne (by simp)
            have c1 := SW.cell HW2.out w.heap.size 1 (.func (.func sf) #[] sb) (by simp) hwne (by simp)
            by_cases hb : a + 2 * s ≤ n
            · have hcall := HSYM.out dk _ a (a + s) (a + 2 * s) HW2.out hdk (by omega) (by omega) hb (by rw [HA.out]; exact HJ2.out.left (by rw [← HA.out]; omega)) (by rw [HA.out]; exact HJ2.out.right (by rw [← HA.out]; omega)) (by rw [HA.out]; exact HJ2.out.cut (by rw [← HA.out]; omega))
              rw [show ((a + s : Nat) : Int) = (a : Int) + s by omega, show ((a + 2 * s : Nat) : Int) = (a : Int) + 2 * s by omega] at hcall
              go_wp2_with (go_at_call 58; refine hcall.mono ?_; rintro e w2 ⟨rfl, d2, hp2, hs2, hV2⟩; have HV2 := Aside0.mk hV2; have HP2 := Aside0.mk hp2; have HS2 := Aside0.mk hs2; clear hV2 hp2 hs2)
              go_roundw
              case rel => exact ⟨a + 2 * s, k + 1, d2, by first | rfl | (congr 1; omega), by first | rfl | (congr 1; omega), by omega, HP2.out.1.trans hdk, ⟨by rw [Nat.add_mul, ← HA.out]; omega⟩, HV2, ⟨by
                have h1 := HP2.out
                have h2 := HS2.out
                rw [HA.out] at h1 h2
                exact HJ2.out.step hdk (by rw [← HA.out]; omega) h1 h2⟩⟩
              case measure => simp [intOf]; omega
            · by_cases hm : a + s < n
              · have hcall := HSYM.out dk _ a (a + s) n HW2.out hdk (by omega) hm (Nat.le_refl _) (by rw [HA.out]; exact HJ2.out.left (by rw [← HA.out]; omega)) (by rw [HA.out]; exact HJ2.out.right (by rw [← HA.out]; omega)) (by rw [HA.out]; exact HJ2.out.cut (Nat.le_refl _))
                rw [show ((a + s : Nat) : Int) = (a : Int) + s by omega] at hcall
                go_wp2_with (go_at_call 58; refine hcall.mono ?_; rintro e w2 ⟨rfl, d2, hp2, hs2, hV2⟩; have HV2 := Aside0.mk hV2; have HP2 := Aside0.mk hp2; have HS2 := Aside0.mk hs2; clear hV2 hp2 hs2)
                go_roundw
                case rel => exact ⟨2 * s, d2, by congr 1; omega, by omega, by omega, HP2.out.1.trans hdk, HV2, ⟨by
                  have h1 := HP2.out
                  have h2 := HS2.out
                  rw [HA.out] at h1 h2
                  exact HJ2.out.fin hdk (by rw [← HA.out]; omega) (by rw [← HA.out]; omega) h1 h2⟩⟩
                case measure => simp [intOf]; omega
              · go_wp2
                go_roundw
                case rel => exact ⟨2 * s, dk, by congr 1; omega, by omega, by omega, hdk, HW2, ⟨HJ2.out.odd hdk (by rw [← HA.out]; omega) (by rw [← HA.out]; omega) (by omega)⟩⟩
                case measure => simp [intOf]; omega
        · go_wp2
          go_end0
          exact ⟨rfl, ds, HJ.out.perm, HJ.out.out (by omega), SW.of_alloc HW.out hblk⟩
end Go.Proofs.Yticocjpfhllelaa.XP
