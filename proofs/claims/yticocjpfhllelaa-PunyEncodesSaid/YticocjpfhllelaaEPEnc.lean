/- The walk of PunyEncodes: the marks in the room behind stay. -/
import Derived.Test.YticocjpfhllelaaEEncode
import Derived.Test.YticocjpfhllelaaEFew
import Derived.Test.YticocjpfhllelaaXP3
import Derived.Test.YticocjpfhllelaaXP5
import Derived.Test.YticocjpfhllelaaPP1
import Derived.RegionTactic
import Derived.Outline
import Derived.IntWalk
set_option linter.unusedVariables false
set_option linter.unusedSimpArgs false
namespace Go.Proofs.Yticocjpfhllelaa.XP
open Go.RowKit Go.Proofs.YticocjpfhllelaaW.PrintWords Go.Proofs.YticocjpfhllelaaW.PrintLast Go.Proofs.YticocjpfhllelaaW.PrintMore

theorem row_front {w : World} {base g cap : Nat} {cur : Array Value} {X Y : List Int} (h : RowAt w base 21 (fun _ => True) g (X ++ Y).length cap cur (encs (Value.int .i32) (X ++ Y))) : Kd.C (Kd.int .i32) w (some ⟨g, 0, none⟩) X.length X := by
  have hR : Kd.R (Kd.int .i32) 21 w base (fun _ => True) (.slice (some ⟨g, 0, none⟩) X.length cap) X := by
    have hle := h.le
    have hsz := h.size
    rw [List.length_append] at hle
    refine Kd.R_of_own ⟨by simp [encs], .inr ⟨g, cap, cur, rfl, h.base_le, h.heap, by omega, h.max, by omega, ?_⟩⟩ (fun _ _ => trivial)
    have ht := h.take
    have h2 := congrArg (List.take X.length) ht
    rw [List.take_take, Nat.min_eq_left (by rw [List.length_append]; omega)] at h2
    rw [Nat.mul_one, h2]
    simp [encs]
  exact (Kd.R_reads' hR).2.2

set_option maxHeartbeats 2000000 in
set_option maxRecDepth 100000 in
theorem pencodes_calls (k : Nat) (A0 : Option Addr) (c0 : Nat) (l0 : List Int) (s : ByteArray) (e : Int) (w : World) (hr0 : Kd.C (Kd.int .i32) w A0 l0.length l0) (hc0 : l0.length ≤ c0)
    (hE : puny_Encode.f (l0.take 2000) = some (s, e)) (hR : endonymref11_Encode.f k (l0.take 2000) = some (s, e)) (hk : 3000 ≤ k) :
    Calls Try.prog 3 #[.slice A0 l0.length c0] w fun e w' => e = .returned (.bool true) ∧ Below w.heap.size w w' := by
  obtain ⟨i09, hi09, _, hsz9, _⟩ := info_parts info21
  obtain ⟨n, hn⟩ : ∃ n, (l0.take 2000).length = n := ⟨_, rfl⟩
  have hn1 : n ≤ l0.length := by rw [← hn, List.length_take]; omega
  have hn2 : n ≤ 2000 := by rw [← hn, List.length_take]; omega
  have htk : l0.take n = l0.take 2000 := by
    rw [← hn, List.length_take]
    rcases Nat.le_total 2000 l0.length with h | h
    · rw [Nat.min_eq_left h]
    · rw [Nat.min_eq_right h, List.take_of_length_le h, List.take_of_length_le (Nat.le_refl _)]
  obtain ⟨hcutT, hAT, hCT⟩ := print_take_of (P := Try.prog) (Value.int .i32) 0 22 21 .i64 Try.underlying22 hi09 hsz9 A0 c0 l0 (n : Int) (by omega) (by omega) hc0
  simp only [Int.toNat_natCast, htk] at hAT hcutT hCT
  have hX0 : Kd.C (Kd.int .i32) w A0 (l0.take 2000).length (l0.take 2000) := Kd.C_of_reads (h1 := fun _ => rfl) (hAT w (Kd.reads_of_C hr0))
  have hroom := endonymlaw11_few.room A0 c0 l0 2000 w hr0 hc0 (by omega)
  rw [show ((2000 : Nat) : Int) = 2000 from rfl] at hroom
  generalize l0.take 2000 = X at *
  subst hn
  have HX := Aside0.mk hX0
  have HROOM := Aside0.mk hroom
  have HE := Aside0.mk hE
  have HR := Aside0.mk hR
  have HT := Aside0.mk (Pure.told_f k (by omega))
  have HS := Aside0.mk (Pure.same_f X k (by omega) (by omega))
  have hsl : ∀ (g cap : Nat) (W : World), X.length + 2 ≤ cap → (Instr.slice 22 (.slice (some ⟨g, 0, none⟩) X.length cap) none (some (.int .i64 ((X.length : Int) + 2))) none).run Try.prog W = .ok (.slice (some ⟨g, 0, none⟩) (X.length + 2) cap) W := by
    intro g cap W hcap
    have hel : Try.prog.elem 22 = 21 := by simp [Program.elem, Try.underlying22]
    have hu : Try.prog.underlying 22 = some (.slice (Try.prog.elem 22)) := by rw [hel]; exact Try.underlying22
    rw [run_slice_h W 22 (some ⟨g, 0, none⟩) X.length cap hu .i64 ((X.length : Int) + 2) (by omega) (by omega), hel]
    simp [sizeOf, typeInfo, hi09, hsz9, sliced, Result.andThen, Addr.add]
    omega
  have HSL := Aside0.mk hsl
  clear hr0 hX0 hroom hE hR hAT hCT htk hsl
  go_enter Try.func3, Try.ntmps3
  go_wp2_with (first | (go_at_call 10; refine HROOM.out.mono ?_; rintro e1 w1 ⟨g, cap, cur, rfl, hrow, hb⟩; have HROW := Aside0.mk (row_front (X := X) (Y := [-7, -8]) (by simpa using hrow)); have hcap : X.length + 2 ≤ cap := hrow.le; have HG := Aside0.mk hrow; have HB1 := Aside0.mk hb; have hsl2 := fun W => HSL.out g cap W hcap; clear hrow hb) | (go_at_call 11; refine (puny_Encode.calls (some ⟨g, 0, none⟩) cap X s e _ HROW.out (by omega) HE.out).mono ?_; rintro e2 w2 ⟨rfl, hb⟩; have HB2 := Aside0.mk hb; clear hb) | (go_at_call 12; refine (endonymref11_Encode.calls k A0 c0 X s e _ (Kd.C_below (Kd.C_below HX.out HB1.out) HB2.out) (by omega) HR.out).mono ?_; rintro e3 w3 ⟨rfl, hb⟩; have HB3 := Aside0.mk hb; clear hb) | (go_at_call 13; refine (endonymlaw11_told.calls k true _ HT.out).mono ?_; rintro e4 w4 ⟨rfl, hb⟩; have HB4 := Aside0.mk hb; clear hb) | (go_at_call 14; refine (endonymref3_Same.calls k (some ⟨g, 0, none⟩) cap X A0 c0 X true _ (Kd.C_below (Kd.C_below (Kd.C_below HROW.out HB2.out) HB3.out) HB4.out) (by omega) (Kd.C_below (Kd.C_below (Kd.C_below (Kd.C_below HX.out HB1.out) HB2.out) HB3.out) HB4.out) (by omega) HS.out).mono ?_; rintro e5 w5 ⟨rfl, ⟨nd, rfl⟩⟩; have k7 := pw_cell_below HB4.out (pw_cell_below HB3.out (pw_cell_below HB2.out (HG.out.cell X.length (.int .i32 (-7)) (by simp [encs])))); have k8 := pw_cell_below HB4.out (pw_cell_below HB3.out (pw_cell_below HB2.out (HG.out.cell (X.length + 1) (.int .i32 (-8)) (by simp [encs]))))))
  go_ret
  exact ⟨rfl, pw_below_drewN (below_step (below_step (below_step HB1.out HB2.out) HB3.out) HB4.out) _⟩

/-- What is left to show in plain Lean. -/
def endonymlaw11_PunyEncodes.Pure : Prop := ∀ (l : List Int), l.length ≤ 2000 → ∃ k s e, 3000 ≤ k ∧ puny_Encode.f l = some (s, e) ∧ endonymref11_Encode.f k l = some (s, e)
theorem endonymlaw11_PunyEncodes.walk (P : endonymlaw11_PunyEncodes.Pure) (a0 : Option Addr) (len0 cap0 : Nat) (z0 : List Int) (w : World) (w0 : (a0 = none ∧ len0 = 0 ∧ cap0 = 0 ∧ z0 = []) ∨ ∃ x, a0 = some x ∧ len0 ≤ cap0 ∧ cap0 ≤ maxLen ∧ z0.length = cap0 ∧ (∀ i, i < z0.length → w.cell? (x.add i) = some (.int .i32 (z0.getD i 0))) ∧ ∀ n ∈ z0, (Lit.int .i32 n).wf = true) (y0 : len0 * 4 ≤ 140737488351232) :
    Calls Try.prog 3 #[.slice a0 len0 cap0] w fun e w' => e = .returned (.bool true) ∧ Below w.heap.size w w' := by
  obtain ⟨l0, rfl, hr0, hm0, hw0, hc0⟩ := ReadsInt.ofRowC w0
  obtain ⟨k, s, e, hk, h1, h2⟩ := P (l0.take 2000) (by rw [List.length_take]; omega)
  exact pencodes_calls k _ _ l0 s e w (Kd.C_of_reads (d := (0 : Int)) (h1 := fun _ => rfl) hr0) hc0 h1 h2 hk
end Go.Proofs.Yticocjpfhllelaa.XP
