/- OrderLong, walked. (printed by mkolong.py) -/
import Derived.Test.YtnohcnneflogjaaGreatK45
import Derived.Laws.BitsLemmas
set_option linter.unusedVariables false
set_option linter.unusedSimpArgs false
namespace Go.Proofs.YtnohcnneflogjaaGreat.M.St
open Go.Shelf Go.RowKit Go.Lib Go.Sort
set_option maxHeartbeats 16000000
set_option maxRecDepth 1000000
theorem i64_and3 (n : Int) : bits .and .i64 n 3 = n % 4 := by
 have h127 : (BitVec.ofInt 64 3).toNat = 2 ^ 2 - 1 := by decide
 have key : (BitVec.ofInt 64 n &&& BitVec.ofInt 64 3).toNat = (n % ((2 ^ 64 : Nat) : Int)).toNat % 2 ^ 2 := by
  rw [BitVec.toNat_and, BitVec.toNat_ofInt, h127, Nat.and_two_pow_sub_one_eq_mod]
 show IntKind.i64.wrap ((BitVec.ofInt 64 n &&& BitVec.ofInt 64 3).toNat : Nat) = n % 4
 rw [key, IntKind.wrap_i64]
 omega
theorem rep_set (i k : Nat) (a b : Int) : (List.replicate i a ++ List.replicate (k + 1) b).set i a = List.replicate (i + 1) a ++ List.replicate k b := by
 induction i with
 | zero => simp [List.replicate_succ]
 | succ n ih => rw [List.replicate_succ, List.cons_append, List.set_cons_succ, ih, List.replicate_succ (n := n + 1), List.cons_append]
theorem i32Zero : (Tryz.prog.info? 21).map (fun i => (i.zero, i.size, i.bytes)) = some (some (.int .i32 0), 1, 4) := by kernel_rfl
attribute [-go_sem] Instr.buildSlice
theorem openX_rep (T : List Rec) (c : Int) : ∀ n, (openX T (List.replicate n c)).length = n * (fullL T c).length
 | 0 => by simp [openX]
 | n + 1 => by
   have := openX_rep T c n
   unfold openX at *
   rw [List.replicate_succ, List.flatMap_cons, List.length_append, this, Nat.add_mul, Nat.one_mul, Nat.add_comm]
theorem inI32_rep {c : Int} (h : -2147483648 ≤ c ∧ c ≤ 2147483647) (n : Nat) : InI32 (List.replicate n c) := fun z hz => by rw [List.eq_of_mem_replicate hz]; exact h
theorem mulw2 (Y : Nat) (h : Y ≤ 2097184) : wrap64 (Y : Int) = (Y : Int) ∧ IntKind.i64.wrap (Y : Int) = (Y : Int) := by
 constructor
 ·unfold wrap64; omega
 ·rw [IntKind.wrap_i64]; omega
theorem TabAt.FullN {w : World} {At : Option Addr} {T : List Rec} (h : TabAt w At T) (ct n : Nat) (hn : T.length = n) (d : Int) (l : List Int) (hl : fullL T d = l) (h1 : -2147483648 ≤ d ∧ d ≤ 2147483647) :
 Calls Tryz.prog 30 #[.slice At n ct, .int .i32 d] w (RetRow l w) := by
 subst hn
 exact h.Full ct d l hl h1
theorem mulw {N L Y : Nat} (hY : Y = N * L) (hN : N ≤ 65537) (hL : L ≤ 32) : wrap64 ((N : Int) * (L : Int)) = (Y : Int) ∧ IntKind.i64.wrap ((N : Int) * (L : Int)) = (Y : Int) := by
 have h3 : N * L ≤ 65537 * 32 := Nat.mul_le_mul hN hL
 rw [← Int.natCast_mul, ← hY]
 rw [← hY] at h3
 exact mulw2 Y (by omega)
theorem OrderLong_calls (c n : Int) (w : World) (hc : -2147483648 ≤ c ∧ c ≤ 2147483647) : Calls Tryz.prog 4 #[.int .i32 c, .int .i64 n] w fun e w' => e = .returned (.bool true) ∧ Up w w' := by
 obtain ⟨ie, ze, hie, hze, hsi, hby, hzc⟩ := i32_info
 have HC := Aside0.mk hc
 obtain ⟨m0, hm0⟩ : ∃ m0 : Nat, bits .and .i64 n 3 = (m0 : Int) := ⟨(n % 4).toNat, by rw [i64_and3]; omega⟩
 have hm3 : m0 ≤ 3 := by rw [i64_and3] at hm0; omega
 have HM3 := Aside0.mk hm3
 obtain ⟨N, hN⟩ : ∃ N : Nat, N = 65534 + m0 := ⟨_, rfl⟩
 have HN := Aside0.mk hN
 have HNL : Aside0 (N ≤ 65537) := ⟨by omega⟩
 have hw1 : wrap64 (65534 + (m0 : Int)) = (N : Int) := by unfold wrap64; omega
 obtain ⟨iz, hiz, hz0, hz1, hz2⟩ := info_parts i32Zero
 have HLB : Aside0 (iz.bytes * N ≤ 281474976710656) := ⟨by rw [hz2]; omega⟩
 have HLM : Aside0 (N ≤ maxLen) := ⟨by unfold maxLen; omega⟩
 have HW1 := Aside0.mk hw1
 have HNM : Aside0 (N = 65534 + m0) := ⟨hN⟩
 obtain ⟨l, hl⟩ : ∃ l, fullL littleT c = l := ⟨_, rfl⟩
 have HL := Aside0.mk hl
 have HLL : Aside0 (l.length ≤ 32) := ⟨by rw [← hl]; exact full_len littleT_f c⟩
 clear hc hm3 hN hl
 go_enter Tryz.func4, Tryz.ntmps4
 go_wp2_with (first | (at_make; refine (wpList_make_full _ rfl _ _ 23 rfl w2.heap.size 21 iz _ 1 Tryz.underlying23 hiz hz0 hz1 .i64 .i64 _ _ N rfl rfl HW1.out HW1.out ?hb ?hc ?hd ?_); (case hb => exact HLB.out); (case hc => exact HLM.out); (case hd => exact Nat.le_refl _); intro w3 hown3 hgrow3; have HO3 := Aside0.mk hown3; have HS3 : Aside0 (Up w2 w3) := ⟨Below.grown (up_refl _) hgrow3 (Nat.le_refl _) (fun k hk => by cases hk)⟩; clear hown3 hgrow3) |
  (go_at_call 21; (with_reducible refine (Made_fine A0 n0 littleT 10 _ HT1.out.table littleT_wf HT1.out.len rfl (by decide) littleT_fine).mono ?_); rintro e w2 ⟨bd, D, A1, c1, rfl, hD, hTab, hup⟩; have HS2 := Aside0.mk hup; have HD := Aside0.mk hD; have HTA : Aside0 (TabAt w2 A1 littleT) := ⟨hTab.table, littleT_f⟩; clear hup hD hTab) |
  (go_at_call 29; (with_reducible refine (Little_calls _).mono ?_); rintro e w1 ⟨A0, n0, rfl, hT, hup⟩; have HS1 := Aside0.mk hup; have HT1 := Aside0.mk hT; clear hup hT))
 have HO3z : Aside0 (w3.ownsRow w2.heap.size 21 1 (.slice (some ⟨w2.heap.size, 0, none⟩) N N) N ((List.replicate 0 c ++ List.replicate (N - 0) (0 : Int)).map (Value.int .i32))) := ⟨by
  have h : w3.ownsRow w2.heap.size 21 1 (.slice (some ⟨w2.heap.size, 0, none⟩) N N) N (madeCells #[.int .i32 0] (N * 1)).toList := HO3.out
  rw [toList_madeCells_one, Nat.mul_one] at h
  simpa using h⟩
 clear HO3
 go_loopg [9] N (fun k v9 w' => ∃ j : Nat, v9 = .int .i64 j ∧ Aside0 (j + k = N) ∧ Aside0 (w'.ownsRow w2.heap.size 21 1 (.slice (some ⟨w2.heap.size, 0, none⟩) N N) N ((List.replicate j c ++ List.replicate (N - j) (0 : Int)).map (Value.int .i32))) ∧ Aside0 (Up w2 w'))
 case atStart => exact ⟨0, rfl, ⟨Nat.zero_add _⟩, HO3z, HS3⟩
 case round =>
  obtain ⟨j, rfl, HJ, HO, HU⟩ := hrel
  cases gk with
  | succ k2 =>
    have hlt : decide ((j : Int) < (N : Int)) = true := decide_eq_true (by have := HJ.out; omega)
    have hlt1 : j < N := by have := HJ.out; omega
    have q7 : 0 ≤ (j : Int) := by omega
    have q9 : (j : Int) < (N : Int) := by omega
    have q8 : (N : Int) ≤ 65537 := by have := HNL.out; omega
    obtain ⟨y1, y2⟩ := own_at HO.out hlt1
    clear hw1 hm0
    go_wp2
    go_roundg k2
    case measure => have := HJ.out; omega
    case rel =>
     refine ⟨j + 1, by go_num, ⟨by have := HJ.out; omega⟩, ⟨?_⟩, ⟨HU.out.setCell (p := ⟨w2.heap.size, j, none⟩) (Nat.le_refl _) _⟩⟩
     have := own_put HO.out j c
     rwa [show N - j = k2 + 1 by have := HJ.out; omega, rep_set, show k2 = N - (j + 1) by have := HJ.out; omega] at this
  | zero =>
    have hj : j = N := by have := HJ.out; omega
    have hlt : decide ((j : Int) < (N : Int)) = false := decide_eq_false (by omega)
    have hlt1 : ¬ (j < N) := by omega
    have hn : (List.replicate N c).length = N := List.length_replicate
    have HI : Aside0 (Ints .i32 wr (some ⟨w2.heap.size, 0, none⟩) (List.replicate N c)) := ⟨by
     have h := HO.out
     rw [hj, Nat.sub_self, List.replicate_zero, List.append_nil] at h
     refine own_ints' (base := w2.heap.size) (c := N) ?_
     rw [hn]
     exact h⟩
    have HNN := Aside0.mk hn
    have HRR : Aside0 (InI32 (List.replicate N c)) := ⟨inI32_rep HC.out N⟩
    clear hj hn hw1 hm0
    rcases Nat.lt_or_ge m0 3 with h3 | h3
    ·have hm : ¬ (m0 = 3) := by omega
     have e3 : ((m0 : Int) == 3) = false := beq_eq_false_iff_ne.mpr (by omega)
     have HL6 : Aside0 ((List.replicate N c).length ≤ 65536) := ⟨by rw [HNN.out]; have := HNM.out; omega⟩
     obtain ⟨y, hy⟩ : ∃ y, sortF littleT (openX littleT (List.replicate N c)) = y := ⟨_, rfl⟩
     obtain ⟨z, hz⟩ : ∃ z, sortF littleT (List.replicate N c) = z := ⟨_, rfl⟩
     have HY := Aside0.mk hy
     have HZ := Aside0.mk hz
     have hyl : y.length = N * l.length := by rw [← hy, sortF_length, openX_rep, HL.out]
     have hzl : z.length = N := by rw [← hz, sortF_length]; exact HNN.out
     have HZL := Aside0.mk hzl
     have HYL := Aside0.mk hyl
     obtain ⟨w1', w2'⟩ := mulw hyl HNL.out HLL.out
     have z1 : ((z.length : Int) == (N : Int)) = true := by rw [hzl]; simp
     have y1 : ((y.length : Int) == (y.length : Int)) = true := by simp
     clear hy hz hyl hzl h3
     go_wp2_with (first | (go_at_call 22; (with_reducible refine (told12_calls _).mono ?_); rintro e w7 ⟨rfl, hup⟩; have HS7 := Aside0.mk hup; have HQQ := HS6; clear hup) |
      (go_at_call 30; (with_reducible refine (((HTA.out.up (up_trans HU.out (up_trans HS4.out HS5.out))).FullN c1 10 rfl c l HL.out HC.out)).mono ?_); rintro e w6 ⟨v6, rfl, hown, hup⟩; have HS6 := Aside0.mk hup; obtain ⟨A6, c6, hv, hi, _⟩ := own_ints hown; subst hv; clear hup hown hi) |
      (go_at_call 25; (with_reducible refine (Sort_i (HD.out.up (up_trans HU.out HS4.out)) littleT_f.toGood _ N _ N HNN.out (HI.out.up HS4.out) HRR.out HL6.out z HZ.out).mono ?_); rintro e w5 ⟨A5, c5, rfl, _, hi, hup⟩; have HS5 := Aside0.mk hup; clear hup hi) |
      (go_at_call 24; (with_reducible refine (NFD_i (HD.out.up HU.out) littleT_f littleT_wf _ N _ N HNN.out HI.out HRR.out HL6.out y HY.out).mono ?_); rintro e w4 ⟨A4, c4, rfl, _, hi, hup⟩; have HS4 := Aside0.mk hup; clear hup hi))
     go_ret
     exact ⟨rfl, up_trans (up_trans HS1.out HS2.out) (up_trans HU.out (up_trans HS4.out (up_trans HS5.out (up_trans HS6.out HS7.out))))⟩
    ·have hm : m0 = 3 := by have := HM3.out; omega
     have e3 : ((m0 : Int) == 3) = true := by rw [hm]; rfl
     have HL6 : Aside0 (65536 < N) := ⟨by have := HNM.out; omega⟩
     clear h3 hm
     go_wp2_with (first | (go_at_call 22; (with_reducible refine (told12_calls _).mono ?_); rintro e w6 ⟨rfl, hup⟩; have HS6 := Aside0.mk hup; have HQQ := HS5; clear hup) |
      (go_at_call 25; (with_reducible refine (Sort_long bd _ N N _ HL6.out).mono ?_); rintro e w5 ⟨rfl, hup⟩; have HS5 := Aside0.mk hup; clear hup) |
      (go_at_call 24; (with_reducible refine (NFD_long bd _ N N _ HL6.out).mono ?_); rintro e w4 ⟨rfl, hup⟩; have HS4 := Aside0.mk hup; clear hup))
     go_ret
     exact ⟨rfl, up_trans (up_trans HS1.out HS2.out) (up_trans HU.out (up_trans HS4.out (up_trans HS5.out HS6.out)))⟩
end Go.Proofs.YtnohcnneflogjaaGreat.M.St
