/- The walk of few: the first elements in a block of their own, two marks behind them. -/
import Derived.Test.YticocjpfhllelaaEPuny
import Derived.Test.YticocjpfhllelaaERow
import Derived.RegionTactic
import Derived.Outline
import Derived.IntWalk
namespace Go.Proofs.Yticocjpfhllelaa.XP
open Go.RowKit Go.Proofs.YticocjpfhllelaaW.PrintWords Go.Proofs.YticocjpfhllelaaW.PrintLast Go.Proofs.YticocjpfhllelaaW.PrintMore

def endonymlaw11_few.f (l : List Int) (m : Int) : Option (List Int) :=
  if 0 ≤ m ∧ m ≤ 100000 then some (l.take m.toNat) else none

set_option maxHeartbeats 2000000 in
set_option maxRecDepth 100000 in
/-- With the room behind what comes. -/
theorem endonymlaw11_few.room (A0 : Option Addr) (c0 : Nat) (l0 : List Int) (m : Nat) (w : World) (hr0 : Kd.C (Kd.int .i32) w A0 l0.length l0) (hc0 : l0.length ≤ c0) (hm : m ≤ 100000) :
    Calls Try.prog 10 #[.slice A0 l0.length c0, .int .i64 m] w fun e w' => ∃ (g cap : Nat) (cur : Array Value), e = .returned (.slice (some ⟨g, 0, none⟩) (l0.take m).length cap) ∧
      RowAt w' w.heap.size 21 (fun _ => True) g ((l0.take m).length + 2) cap cur (encs (Value.int .i32) (l0.take m ++ [-7, -8])) ∧ Below w.heap.size w w' := by
  have HC := Aside0.mk hr0
  clear hr0
  obtain ⟨i09, hi09, _, hsz9, _⟩ := info_parts info21
  have hn0 : ((min l0.length m : Nat) : Int) ≤ l0.length := by omega
  obtain ⟨hcutT, hAT, hCT⟩ := print_take_of (P := Try.prog) (Value.int .i32) 0 22 21 .i64 Try.underlying22 hi09 hsz9 A0 c0 l0 ((min l0.length m : Nat) : Int) (by omega) hn0 hc0
  have htk : l0.take (min l0.length m) = l0.take m := by rcases Nat.le_total l0.length m with h | h <;> simp [h, List.take_of_length_le]
  have hl1 : (l0.take m).length = min l0.length m := by simp; omega
  simp only [Int.toNat_natCast, htk] at hAT hcutT
  have HAT := Aside0.mk hAT
  clear hAT hCT
  have HL1 := Aside0.mk hl1
  clear hl1
  have hll : (l0.take m).length ≤ 100000 := by rw [HL1.out]; omega
  generalize hX : l0.take m = X at HAT hcutT HL1 hll ⊢
  clear htk
  generalize hq : min l0.length m = q at hcutT hn0 HL1
  have HQ := Aside0.mk hq
  clear hq hX
  have hlq := HL1.out
  have fin : ∀ (g cap : Nat) (cur : Array Value) (w7 : World), RowAt w7 w.heap.size 21 (fun _ => True) g (X ++ [-7, -8]).length cap cur (encs (Value.int .i32) (X ++ [-7, -8])) → RowAt w7 w.heap.size 21 (fun _ => True) g (X.length + 2) cap cur (encs (Value.int .i32) (X ++ [-7, -8])) := fun g cap cur w7 h => by simpa using h
  have HF := Aside0.mk fin
  clear fin
  by_cases hcm : m < l0.length
  · obtain rfl : q = m := by have := HQ.out; omega
    clear hlq
    go_enter Try.func10, Try.ntmps10
    go_wp2_with (first | ((with_reducible refine gate_builtin (b := .append) (xs := #[.tmp 11, .tmp 14]) rfl ?_); at_builtin; refine Kd.R_append_rows (Kd.int .i32) (w0 := w) w.heap.size rfl (.tmp 11) (.tmp 14) 22 21 (.int .i32 0) 4 rfl Try.underlying22 info21 rfl (by decide) (by omega) (.slice none 0 0) ([] : List Int) X _ _ _ (fun _ => True) (fun _ => False) rfl rfl ?aO ?aR (fun _ _ h => h) (fun _ h => h.elim) ?aF ?aB ?aS ?aL ?_; (case aO => exact Kd.R_nil _ _ _ _ _); (case aR => exact Kd.C_of_reads (h1 := fun _ => rfl) (HAT.out _ (Kd.reads_of_C HC.out))); (case aF => exact fun _ _ => trivial); (case aB => exact Below.refl _ _); (case aS => omega); (case aL => simp; omega); intro v1 w5 ho hb hg hat5; have HO5 := Aside0.mk ho; have HB5 := Aside0.mk hb; clear ho hb hg hat5) | ((with_reducible refine gate_dst (N := 17) rfl ?_); (try (refine gate_guard (by rfl) ?_; dsimp only)); refine Kd.R_lit (Kd.int .i32) _ 21 ?hg (N := 17) ?hd (xs := ([-7, -8] : List Int)) (inner := [.int .i32 (-7), .int .i32 (-8)]) (ok := fun _ => True) (okp := fun _ => True) ?hr ?hp (fun _ hk => hk) trivial (Below.refl _ _) (Nat.le_refl _) (by simp) ?_; (case hd => rfl); (case hg => rfl); (case hr => first | (go_simp; done) | (go_simp; rfl)); (case hp => exact (Reps.one (show Kd.M (Kd.int .i32) _ _ _ (-7) [.int .i32 (-7)] from rfl) (Reps.one (show Kd.M (Kd.int .i32) _ _ _ (-8) [.int .i32 (-8)] from rfl) (Reps.none _ _)))); intro v2 w6 ho hb hg_ hnew_; clear hg_ hnew_; obtain ⟨A6, c6, e6⟩ := Kd.R_slice ho; subst e6; have HO6 := Aside0.mk (Kd.R_reads' ho).2.2; have HP6 := Aside0.mk (Kd.R_below HO5.out hb); have HB6 := Aside0.mk (below_step HB5.out hb); clear ho hb HO5) | ((with_reducible refine gate_builtin (b := .append) (xs := #[.tmp 16, .tmp 17]) rfl ?_); at_builtin; refine Kd.R_append_rows (Kd.int .i32) (w0 := w) w.heap.size rfl (.tmp 16) (.tmp 17) 22 21 (.int .i32 0) 4 rfl Try.underlying22 info21 rfl (by decide) (by omega) v1 X ([-7, -8] : List Int) _ _ _ (fun _ => True) (fun _ => False) rfl rfl ?aO ?aR (fun _ _ h => h) (fun _ h => h.elim) ?aF ?aB ?aS ?aL ?_; (case aO => exact HP6.out); (case aR => exact HO6.out); (case aF => exact fun _ _ => trivial); (case aB => exact HB6.out); (case aS => exact below_size HB6.out); (case aL => simp; omega); intro v3 w7 ho hb hg hat5; have hlq := HL1.out; obtain ⟨g, cap, cur, e7, hrow⟩ := row_at ho (by simp); subst e7; obtain ⟨hcut7, _, _⟩ := print_take_of (P := Try.prog) (Value.int .i32) 0 22 21 .i64 Try.underlying22 hi09 hsz9 (some ⟨g, 0, none⟩) cap (X ++ [-7, -8]) (q : Int) (by omega) (by simp; omega) hrow.le; have e9 : ((X ++ [-7, -8]).take ((q : Int).toNat)).length = X.length := (by simp; omega); rw [e9] at hcut7; have HO7 := Aside0.mk (HF.out _ _ _ _ hrow); have HB7 := Aside0.mk hb; clear ho hb hg hat5 hrow e9 hlq; (generalize (X ++ [-7, -8]).length = n7 at hcut7 ⊢)))
    go_ret
    exact ⟨g, cap, rfl, ⟨cur, HO7.out⟩, HB7.out⟩
  · obtain rfl : q = l0.length := by have := HQ.out; omega
    clear hlq
    go_enter Try.func10, Try.ntmps10
    go_wp2_with (first | ((with_reducible refine gate_builtin (b := .append) (xs := #[.tmp 11, .tmp 14]) rfl ?_); at_builtin; refine Kd.R_append_rows (Kd.int .i32) (w0 := w) w.heap.size rfl (.tmp 11) (.tmp 14) 22 21 (.int .i32 0) 4 rfl Try.underlying22 info21 rfl (by decide) (by omega) (.slice none 0 0) ([] : List Int) X _ _ _ (fun _ => True) (fun _ => False) rfl rfl ?aO ?aR (fun _ _ h => h) (fun _ h => h.elim) ?aF ?aB ?aS ?aL ?_; (case aO => exact Kd.R_nil _ _ _ _ _); (case aR => exact Kd.C_of_reads (h1 := fun _ => rfl) (HAT.out _ (Kd.reads_of_C HC.out))); (case aF => exact fun _ _ => trivial); (case aB => exact Below.refl _ _); (case aS => omega); (case aL => simp; omega); intro v1 w5 ho hb hg hat5; have HO5 := Aside0.mk ho; have HB5 := Aside0.mk hb; clear ho hb hg hat5) | ((with_reducible refine gate_dst (N := 17) rfl ?_); (try (refine gate_guard (by rfl) ?_; dsimp only)); refine Kd.R_lit (Kd.int .i32) _ 21 ?hg (N := 17) ?hd (xs := ([-7, -8] : List Int)) (inner := [.int .i32 (-7), .int .i32 (-8)]) (ok := fun _ => True) (okp := fun _ => True) ?hr ?hp (fun _ hk => hk) trivial (Below.refl _ _) (Nat.le_refl _) (by simp) ?_; (case hd => rfl); (case hg => rfl); (case hr => first | (go_simp; done) | (go_simp; rfl)); (case hp => exact (Reps.one (show Kd.M (Kd.int .i32) _ _ _ (-7) [.int .i32 (-7)] from rfl) (Reps.one (show Kd.M (Kd.int .i32) _ _ _ (-8) [.int .i32 (-8)] from rfl) (Reps.none _ _)))); intro v2 w6 ho hb hg_ hnew_; clear hg_ hnew_; obtain ⟨A6, c6, e6⟩ := Kd.R_slice ho; subst e6; have HO6 := Aside0.mk (Kd.R_reads' ho).2.2; have HP6 := Aside0.mk (Kd.R_below HO5.out hb); have HB6 := Aside0.mk (below_step HB5.out hb); clear ho hb HO5) | ((with_reducible refine gate_builtin (b := .append) (xs := #[.tmp 16, .tmp 17]) rfl ?_); at_builtin; refine Kd.R_append_rows (Kd.int .i32) (w0 := w) w.heap.size rfl (.tmp 16) (.tmp 17) 22 21 (.int .i32 0) 4 rfl Try.underlying22 info21 rfl (by decide) (by omega) v1 X ([-7, -8] : List Int) _ _ _ (fun _ => True) (fun _ => False) rfl rfl ?aO ?aR (fun _ _ h => h) (fun _ h => h.elim) ?aF ?aB ?aS ?aL ?_; (case aO => exact HP6.out); (case aR => exact HO6.out); (case aF => exact fun _ _ => trivial); (case aB => exact HB6.out); (case aS => exact below_size HB6.out); (case aL => simp; omega); intro v3 w7 ho hb hg hat5; have hlq := HL1.out; obtain ⟨g, cap, cur, e7, hrow⟩ := row_at ho (by simp); subst e7; obtain ⟨hcut7, _, _⟩ := print_take_of (P := Try.prog) (Value.int .i32) 0 22 21 .i64 Try.underlying22 hi09 hsz9 (some ⟨g, 0, none⟩) cap (X ++ [-7, -8]) (l0.length : Int) (by omega) (by simp; omega) hrow.le; have e9 : ((X ++ [-7, -8]).take ((l0.length : Int).toNat)).length = X.length := (by simp; omega); rw [e9] at hcut7; have HO7 := Aside0.mk (HF.out _ _ _ _ hrow); have HB7 := Aside0.mk hb; clear ho hb hg hat5 hrow e9 hlq; (generalize (X ++ [-7, -8]).length = n7 at hcut7 ⊢)))
    go_ret
    exact ⟨g, cap, rfl, ⟨cur, HO7.out⟩, HB7.out⟩

theorem endonymlaw11_few.calls (A0 : Option Addr) (c0 : Nat) (l0 : List Int) (a1 : Int) (r : List Int) (w : World) (hr0 : Kd.C (Kd.int .i32) w A0 l0.length l0) (hc0 : l0.length ≤ c0) (h : endonymlaw11_few.f l0 a1 = some r) :
    Calls Try.prog 10 #[.slice A0 l0.length c0, .int .i64 a1] w fun e w' => ∃ v0_ : Value, e = .returned v0_ ∧ Kd.R (Kd.int .i32) 21 w' w.heap.size (fun _ => True) v0_ r ∧ Below w.heap.size w w' := by
  unfold endonymlaw11_few.f at h
  split at h
  · rename_i hm
    obtain ⟨m, rfl⟩ := Int.eq_ofNat_of_zero_le hm.1
    simp only [Option.some.injEq, Int.toNat_natCast] at h
    subst h
    refine (endonymlaw11_few.room A0 c0 l0 m w hr0 hc0 (by omega)).mono ?_
    rintro e w' ⟨g, cap, cur, rfl, hr, hb⟩
    refine ⟨_, rfl, ?_, hb⟩
    refine Kd.R_of_own ⟨by simp [encs], .inr ⟨g, cap, cur, rfl, hr.base_le, hr.heap, by have := hr.le; omega, hr.max, by have := hr.size; omega, ?_⟩⟩ (fun _ _ => trivial)
    have ht := hr.take
    have h2 := congrArg (List.take (l0.take m).length) ht
    rw [List.take_take, Nat.min_eq_left (by omega)] at h2
    rw [Nat.mul_one, h2]
    simp [encs]
  · exact absurd h (by simp)
end Go.Proofs.Yticocjpfhllelaa.XP
