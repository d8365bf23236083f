/- norm.Quick, Is, Safe, walked. -/
import Derived.Test.YtnohcnneflogjaaGreatPNorm2
import Derived.Test.YtnohcnneflogjaaGreatK38
set_option maxHeartbeats 16000000
set_option maxRecDepth 1000000
set_option linter.unusedVariables false
set_option linter.unusedSimpArgs false
namespace Go.Proofs.YtnohcnneflogjaaGreat.M.Nm
open Go.Shelf Go.RowKit Go.Lib Go.Sort St
attribute [local go_sem] max_two_int
def worstF (T : List Rec) (x : List Int) (w0 : Int) : Int := x.foldl (fun m c => max m (foundF T c)) w0
def quickF (T : List Rec) (x : List Int) : Int := 2 - worstF T x (if sortedG (numF T 2 (·.n)) 0 x then 0 else 2)
theorem worstF_cases (T : List Rec) : ∀ (x : List Int) (m : Int), (m = 0 ∨ m = 1 ∨ m = 2) → (worstF T x m = 0 ∨ worstF T x m = 1 ∨ worstF T x m = 2)
 | [], m, h => h
 | c :: x, m, h => by
   unfold worstF
   rw [List.foldl_cons]
   refine worstF_cases T x _ ?_
   have := foundF_cases T c
   omega
theorem safeF_found (T : List Rec) (c : Int) : safeF T c = (decide (classF T c = 0) && decide (foundF T c = 0)) := by
 unfold safeF foundF
 cases badF T c <;> cases secondF T (rd (fullL T c) 0) <;> simp
section
variable {H : Nat} {w : World} {bd : Nat} {D : DataV} {T : List Rec}
theorem Is_calls (hD : DataAt H w bd D T) (hF : Fine T) (A : Option Addr) (c : Nat) (x : List Int) (n : Nat) (hn : x.length = n) (hI : Ints .i32 w A x) (hr : InI32 x) (hx : x.length ≤ 65536) (b : Bool) (hb : (x == nfcF T x) = b) :
 Calls Tryz.prog 58 #[.pointer (some ⟨bd, 0, none⟩), .slice A n c] w fun e w' => e = .returned (.tuple #[.bool b, .int .i64 0]) ∧ Up w w' := by
 subst hn
 obtain ⟨y, hy⟩ : ∃ y, nfcF T x = y := ⟨_, rfl⟩
 rw [hy] at hb
 have HB := Az.mk hb
 have HXB : Az (x.length ≤ 35184372087808) := ⟨by omega⟩
 have HYB : Az (y.length ≤ 35184372087808) := ⟨by rw [← hy]; have := nfc_len hF x; omega⟩
 have HN := Az.mk (NFC_calls hD hF A c x _ rfl hI hr hx y hy)
 have HX := Az.mk hI
 clear hD hF hI hr hx hy hb
 go_enter Tryz.func58, Tryz.ntmps58
 go_wp2_with (first | (go_at_call 44; (with_reducible refine HN.out.mono ?_); rintro e w1 ⟨A1, c1, rfl, _, hi, hup⟩; have HI1 := Az.mk hi; have HU1 := Az.mk hup; clear hi hup) | (go_at_call 84; (with_reducible refine (Equal_calls A A1 c c1 x y _ (HX.out.up HU1.out) HI1.out HXB.out HYB.out b HB.out).mono ?_); rintro e w2 ⟨rfl, hup⟩; have HU2 := Az.mk (up_trans HU1.out hup); clear hup))
 go_ret2
 exact ⟨rfl, HU2.out⟩
theorem Safe_calls (hD : DataAt H w bd D T) (hF : Fine T) (c : Int) (hc : -2147483648 ≤ c ∧ c ≤ 2147483647) (b : Bool) (hb : safeF T c = b) :
 Calls Tryz.prog 45 #[.pointer (some ⟨bd, 0, none⟩), .int .i32 c] w fun e w' => e = .returned (.bool b) ∧ Up w w' := by
 rw [safeF_found] at hb
 obtain ⟨n, hn⟩ : ∃ n, numF T 2 (·.n) c = n := ⟨_, rfl⟩
 obtain ⟨f, hf⟩ : ∃ f, foundF T c = f := ⟨_, rfl⟩
 rw [show classF T c = n from hn, hf] at hb
 have HB := Az.mk hb
 have HC := Az.mk (hD.Class hF.toGood c n hn hc.1 hc.2)
 have HFO : Az (∀ W, Up w W → Calls Tryz.prog 86 #[.pointer (some ⟨bd, 0, none⟩), .int .i32 c] W fun e w' => e = .returned (.int .i64 f) ∧ Up W w') := ⟨fun W hW => found_calls (hD.up hW) hF c hc f hf⟩
 obtain ⟨⟨_, _, _, a3, _, _, _⟩, _, _, _, _, _, _⟩ := hD.all
 clear hD hF hb hn hf
 by_cases hz : n = 0
 ·have e0 : (n == 0) = true := beq_iff_eq.mpr hz
  have HZ := Az.mk hz
  clear hz
  go_enter Tryz.func45, Tryz.ntmps45
  go_wp2_with (first | (go_at_call 27; (with_reducible refine HC.out.mono ?_); rintro e w1 ⟨rfl, hup⟩; have HU1 := Az.mk hup; clear hup) | (go_at_call 86; (with_reducible refine (HFO.out _ HU1.out).mono ?_); rintro e w2 ⟨rfl, hup⟩; have HU2 := Az.mk (up_trans HU1.out hup); clear hup))
  go_ret
  refine ⟨?_, HU2.out⟩
  rw [← HB.out, HZ.out]
  rfl
 ·have e0 : (n == 0) = false := bqf hz
  have HZ := Az.mk hz
  clear hz
  go_enter Tryz.func45, Tryz.ntmps45
  go_wp2_with (first | (go_at_call 27; (with_reducible refine HC.out.mono ?_); rintro e w1 ⟨rfl, hup⟩; have HU1 := Az.mk hup; clear hup))
  go_ret
  refine ⟨?_, HU1.out⟩
  rw [← HB.out, dFz HZ.out]
  rfl
theorem Quick_calls (hD : DataAt H w bd D T) (hF : Fine T) (A : Option Addr) (c : Nat) (x : List Int) (n : Nat) (hn : x.length = n) (hI : Ints .i32 w A x) (hr : InI32 x) (hx : x.length ≤ 65536) (q : Int) (hq : quickF T x = q) :
 Calls Tryz.prog 43 #[.pointer (some ⟨bd, 0, none⟩), .slice A n c] w fun e w' => e = .returned (.tuple #[.int .i64 q, .int .i64 0]) ∧ Up w w' := by
 subst hn
 obtain ⟨b, hb⟩ : ∃ b, sortedG (numF T 2 (·.n)) 0 x = b := ⟨_, rfl⟩
 have HSC := Az.mk (Sorted_i hD hF.toGood A c x _ rfl hI hr (by omega) b hb)
 unfold quickF at hq
 rw [hb] at hq
 have HQ := Az.mk hq
 have HD := Az.mk hD
 have HF := Az.mk hF
 have HX := Az.mk hI
 have HR := Az.mk hr
 have HXL := Az.mk hx
 obtain ⟨w0, hw0⟩ : ∃ w0 : Int, (if b then (0 : Int) else 2) = w0 := ⟨_, rfl⟩
 have HW0 := Az.mk hw0
 have key : ∀ (wa : World) (u : Value), True := fun _ _ => trivial
 clear hD hF hI hr hx hq hb key
 have RR : Az (b = true ∧ w0 = 0 ∨ b = false ∧ w0 = 2) := ⟨by rw [← hw0]; cases b <;> simp⟩
 clear hw0
 cases b with
 | true =>
   have HWQ : Az (2 - worstF T x (0) = q) := ⟨HQ.out⟩
   clear HQ
   go_enter Tryz.func43, Tryz.ntmps43
   go_wp2_with (first | (go_at_call 85; (with_reducible refine (refused13_ok _ _ _ _ _ HXL.out).mono ?_); rintro e w1 ⟨rfl, rfl⟩) | (go_at_call 35; (with_reducible refine HSC.out.mono ?_); rintro e w1 ⟨rfl, hup⟩; have HU1 := Az.mk hup; clear hup))
   go_loopg [7, 23] x.length (fun k v7 v23 wr => ∃ (i : Nat) (m : Int), v23 = .int .i64 i ∧ v7 = .int .i64 m ∧ Az (i + k = x.length ∧ (m = 0 ∨ m = 1 ∨ m = 2)) ∧ Az (worstF T (x.drop i) m = worstF T x (0)) ∧ Az (Up w wr))
   case atStart => exact ⟨0, 0, rfl, rfl, ⟨Nat.zero_add _, by simp⟩, ⟨rfl⟩, HU1⟩
   case round =>
    obtain ⟨i, m, rfl, rfl, HI, HWW, HU⟩ := hrel
    clear HU1
    cases gk with
    | zero =>
      have hlt : decide ((i : Int) < (x.length : Int)) = false := dFz (by have := HI.out; omega)
      have hlt1 : ¬ (i < x.length) := by have := HI.out; omega
      have HE : Az (2 - m = q) := ⟨by
       have e := HWW.out
       rw [List.drop_eq_nil_of_le (by omega)] at e
       rw [← HWQ.out, ← e]
       rfl⟩
      rcases HI.out.2 with rfl | rfl | rfl
      all_goals
       go_wp2
       go_ret2
       exact ⟨by rw [← HE.out]; rfl, HU.out⟩
    | succ k =>
      have hi : i < x.length := by have := HI.out; omega
      have hlt : decide ((i : Int) < (x.length : Int)) = true := dTz (by omega)
      have z1 : (i : Int) < (x.length : Int) := by omega
      have z2 : (i : Int) < 100000 := by have := HXL.out; omega
      obtain ⟨ad, hA, y1⟩ := HX.out.at_ i (by omega) z1
      have y2 := up_cell HU.out y1
      rw [Int.toNat_natCast] at y2
      subst hA
      clear y1
      obtain ⟨d, hd⟩ : ∃ d, x[i] = d := ⟨_, rfl⟩
      rw [rd_elem x i hi, hd] at y2
      have HDR : Az (-2147483648 ≤ d ∧ d ≤ 2147483647) := ⟨HR.out d (by rw [← hd]; exact List.getElem_mem _)⟩
      have HDD : Az (x.drop i = d :: x.drop (i + 1)) := ⟨by rw [List.drop_eq_getElem_cons hi, hd]⟩
      obtain ⟨f, hf⟩ : ∃ f, foundF T d = f := ⟨_, rfl⟩
      have HFF := Az.mk hf
      have HFO := Az.mk (found_calls (HD.out.up HU.out) HF.out d HDR.out f hf)
      clear hd hf hi
      go_wp2_with (first | (go_at_call 86; (with_reducible refine HFO.out.mono ?_); rintro e w2 ⟨rfl, hup⟩; have HU2 := Az.mk (up_trans HU.out hup); clear hup))
      go_roundg k
      case measure => omega
      case rel =>
       refine ⟨i + 1, max m f, by go_num, rfl, ⟨by have := HI.out; omega, ?_⟩, ⟨?_⟩, HU2⟩
       ·have h1 := HI.out.2
        have h2 := foundF_cases T d
        rw [HFF.out] at h2
        omega
       ·have e := HWW.out
        rw [HDD.out] at e
        rw [← HFF.out]
        exact e
 | false =>
   have HWQ : Az (2 - worstF T x (2) = q) := ⟨HQ.out⟩
   clear HQ
   go_enter Tryz.func43, Tryz.ntmps43
   go_wp2_with (first | (go_at_call 85; (with_reducible refine (refused13_ok _ _ _ _ _ HXL.out).mono ?_); rintro e w1 ⟨rfl, rfl⟩) | (go_at_call 35; (with_reducible refine HSC.out.mono ?_); rintro e w1 ⟨rfl, hup⟩; have HU1 := Az.mk hup; clear hup))
   go_loopg [7, 23] x.length (fun k v7 v23 wr => ∃ (i : Nat) (m : Int), v23 = .int .i64 i ∧ v7 = .int .i64 m ∧ Az (i + k = x.length ∧ (m = 0 ∨ m = 1 ∨ m = 2)) ∧ Az (worstF T (x.drop i) m = worstF T x (2)) ∧ Az (Up w wr))
   case atStart => exact ⟨0, 2, rfl, rfl, ⟨Nat.zero_add _, by simp⟩, ⟨rfl⟩, HU1⟩
   case round =>
    obtain ⟨i, m, rfl, rfl, HI, HWW, HU⟩ := hrel
    clear HU1
    cases gk with
    | zero =>
      have hlt : decide ((i : Int) < (x.length : Int)) = false := dFz (by have := HI.out; omega)
      have hlt1 : ¬ (i < x.length) := by have := HI.out; omega
      have HE : Az (2 - m = q) := ⟨by
       have e := HWW.out
       rw [List.drop_eq_nil_of_le (by omega)] at e
       rw [← HWQ.out, ← e]
       rfl⟩
      rcases HI.out.2 with rfl | rfl | rfl
      all_goals
       go_wp2
       go_ret2
       exact ⟨by rw [← HE.out]; rfl, HU.out⟩
    | succ k =>
      have hi : i < x.length := by have := HI.out; omega
      have hlt : decide ((i : Int) < (x.length : Int)) = true := dTz (by omega)
      have z1 : (i : Int) < (x.length : Int) := by omega
      have z2 : (i : Int) < 100000 := by have := HXL.out; omega
      obtain ⟨ad, hA, y1⟩ := HX.out.at_ i (by omega) z1
      have y2 := up_cell HU.out y1
      rw [Int.toNat_natCast] at y2
      subst hA
      clear y1
      obtain ⟨d, hd⟩ : ∃ d, x[i] = d := ⟨_, rfl⟩
      rw [rd_elem x i hi, hd] at y2
      have HDR : Az (-2147483648 ≤ d ∧ d ≤ 2147483647) := ⟨HR.out d (by rw [← hd]; exact List.getElem_mem _)⟩
      have HDD : Az (x.drop i = d :: x.drop (i + 1)) := ⟨by rw [List.drop_eq_getElem_cons hi, hd]⟩
      obtain ⟨f, hf⟩ : ∃ f, foundF T d = f := ⟨_, rfl⟩
      have HFF := Az.mk hf
      have HFO := Az.mk (found_calls (HD.out.up HU.out) HF.out d HDR.out f hf)
      clear hd hf hi
      go_wp2_with (first | (go_at_call 86; (with_reducible refine HFO.out.mono ?_); rintro e w2 ⟨rfl, hup⟩; have HU2 := Az.mk (up_trans HU.out hup); clear hup))
      go_roundg k
      case measure => omega
      case rel =>
       refine ⟨i + 1, max m f, by go_num, rfl, ⟨by have := HI.out; omega, ?_⟩, ⟨?_⟩, HU2⟩
       ·have h1 := HI.out.2
        have h2 := foundF_cases T d
        rw [HFF.out] at h2
        omega
       ·have e := HWW.out
        rw [HDD.out] at e
        rw [← HFF.out]
        exact e
end
theorem Safe_nil (c : Int) (w : World) : Calls Tryz.prog 45 #[.pointer none, .int .i32 c] w fun e w' => e = .returned (.bool false) ∧ Up w w' := by
 go_enter Tryz.func45, Tryz.ntmps45
 go_wp2
 go_ret
 exact ⟨rfl, up_refl _⟩
end Go.Proofs.YtnohcnneflogjaaGreat.M.Nm
