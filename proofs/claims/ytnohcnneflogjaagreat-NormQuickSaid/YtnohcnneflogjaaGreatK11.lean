/- One block of a trie, walked. -/
import Derived.Test.YtnohcnneflogjaaGreatK09
import Derived.Test.YtnohcnneflogjaaGreatK06
import Derived.Test.YtnohcnneflogjaaGreatK10
set_option maxHeartbeats 16000000
set_option maxRecDepth 100000
set_option linter.unusedVariables false
set_option linter.unusedSimpArgs false
namespace Go.Proofs.YtnohcnneflogjaaGreat.M
open Go.RowKit
attribute [local go_sem] max_two_int min_two_int
theorem Arr64At.frozen {w : World} {g : Nat} {f : Nat → Int} (h : Arr64At w g f) (j : Nat) : w.frozen? ⟨g, j, none⟩ = false := by
 unfold Arr64At at h
 simp [World.frozen?, h]
theorem Arr64At.congr {w : World} {g : Nat} {f q : Nat → Int} (h : Arr64At w g f) (hf : ∀ j, j < 64 → f j = q j) : Arr64At w g q := by
 unfold Arr64At at *
 rw [← arr64_congr hf]
 exact h
theorem Arr64At.other {w : World} {g : Nat} {f : Nat → Int} (h : Arr64At w g f) {a : Addr} (ha : g ≠ a.block) (v : Value) : Arr64At (w.setCell a v) g f := by
 unfold Arr64At at *
 rw [Below.heap_setCell _ _ _ _ ha]
 exact h
def RngBox (w : World) (b : Nat) (r : Rng) : Prop := w.heap[b]? = some (.cells #[.int .i64 r.lo, .int .i64 r.hi, .int .i64 r.val] 175 (0, 0))
theorem RngBox.cells {w : World} {b : Nat} {r : Rng} (h : RngBox w b r) : w.cell? ⟨b, 0, none⟩ = some (.int .i64 r.lo) ∧ w.cell? ⟨b, 1, none⟩ = some (.int .i64 r.hi) ∧ w.cell? ⟨b, 2, none⟩ = some (.int .i64 r.val) := by
 unfold RngBox at h
 refine ⟨?_, ?_, ?_⟩ <;> simp [World.cell?, h]
theorem rngBox_new (w : World) (r : Rng) : RngBox (w.alloc (.cells #[.int .i64 r.lo, .int .i64 r.hi, .int .i64 r.val] 175)) w.heap.size r := heap_alloc_new w _
theorem RngBox.other {w : World} {b : Nat} {r : Rng} (h : RngBox w b r) {a : Addr} (ha : b ≠ a.block) (v : Value) : RngBox (w.setCell a v) b r := by
 unfold RngBox at *
 rw [Below.heap_setCell _ _ _ _ ha]
 exact h
theorem block_calls (A : Option Addr) (c : Nat) (L : List Rng) (lo d : Int) (w : World) (hL : Rngs w A L) (hO : Ordered L) (hlo : 0 ≤ lo) (hlo2 : lo ≤ 1114048) (hd : 0 ≤ d ∧ d ≤ 65535) (hlen : L.length ≤ 1073741824) :
 Calls Tryz.prog 216 #[.slice A L.length c, .int .i64 lo, .int .u16 d] w fun e w' => e = .returned (.agg (arr64 fun j => valR L d (lo + j))) ∧ Up w w' := by
 have hu157 := Tryz.underlying175
 have hz := arr64_zero
 have HL := Az.mk hL
 have HO := Az.mk hO
 have HD := Az.mk hd
 have HU0 : Az (Up w ((w.alloc (.cells (arr64 fun x => 0) 156)).alloc (.cells (arr64 fun x => 0) 156))) := ⟨up_alloc (up_alloc (up_refl _) _) _⟩
 have HA0 : Az (Arr64At ((w.alloc (.cells (arr64 fun x => 0) 156)).alloc (.cells (arr64 fun x => 0) 156)) w.heap.size (fun x => 0)) := ⟨Arr64At.alloc (heap_alloc_new w _) _⟩
 have HB0 : Az (Arr64At ((w.alloc (.cells (arr64 fun x => 0) 156)).alloc (.cells (arr64 fun x => 0) 156)) (w.heap.size + 1) (fun x => 0)) := ⟨by
  have := heap_alloc_new (w.alloc (.cells (arr64 fun x => 0) 156)) (.cells (arr64 fun x => 0) 156)
  rwa [show (w.alloc (.cells (arr64 fun x => 0) 156)).heap.size = w.heap.size + 1 by simp] at this⟩
 clear hL hO hd
 go_enter Tryz.func216, Tryz.ntmps216
 go_wp2
 go_loopg [12] 64 (fun k v12 w' => ∃ j : Nat, v12 = .int .i64 j ∧ Az (j + k = 64) ∧ Az (Up w w') ∧ Az (Arr64At w' w.heap.size (fun x => 0)) ∧ Az (Arr64At w' (w.heap.size + 1) (fun q => if q < j then d else 0)))
 case atStart => exact ⟨0, rfl, ⟨rfl⟩, HU0, HA0, ⟨HB0.out.congr (fun j _ => by rw [if_neg (by omega)])⟩⟩
 case round =>
  clear HU0 HA0 HB0 hz
  obtain ⟨j, rfl, HJ, HU, HA, HB⟩ := hrel
  have hj := HJ.out
  cases gk with
  | succ k =>
    have hlt : decide ((j : Int) < 64) = true := dTz (by omega)
    have hln : decide (j < 64) = true := dTz (by omega)
    have p1 : 0 ≤ (j : Int) := by omega
    have p2 : (j : Int) < 64 := by omega
    have hcell := HB.out.cell j (by omega)
    have hfr := HB.out.frozen j
    have HJ64 : Az (j < 64) := ⟨by omega⟩
    clear hj
    go_wp2
    go_roundg k
    case measure => have := HJ.out; omega
    case rel => exact ⟨j + 1, rfl, ⟨by have := HJ.out; omega⟩, ⟨up_setCell HU.out (Nat.le_succ _) _⟩, ⟨HA.out.other (by simp) _⟩, ⟨(HB.out.set j HJ64.out d).congr (fun q hq => by
     by_cases hqj : q = j
     ·rw [if_pos hqj, if_pos (by omega)]
     ·rw [if_neg hqj]
      by_cases h : q < j
      ·rw [if_pos h, if_pos (by omega)]
      ·rw [if_neg h, if_neg (by omega)])⟩⟩
  | zero =>
    have hlt : decide ((j : Int) < 64) = false := dFz (by omega)
    have hln : decide (j < 64) = false := dFz (by omega)
    have HBN : Az (Arr64At wr (w.heap.size + 1) (fun q => valR (L.take 0) d (lo + q))) := ⟨HB.out.congr (fun q hq => by rw [if_pos (by omega)]; rfl)⟩
    clear HB hj HJ
    go_wp2
    go_loopg [21] L.length (fun k v21 w' => ∃ i : Nat, v21 = .int .i64 i ∧ Az (i + k = L.length) ∧ Az (Up w w') ∧ Az (Arr64At w' w.heap.size (fun x => 0)) ∧ Az (Arr64At w' (w.heap.size + 1) (fun q => valR (L.take i) d (lo + q))))
    case atStart => exact ⟨0, rfl, ⟨Nat.zero_add _⟩, HU, HA, HBN⟩
    case round =>
     clear HU HA HBN hlt hln
     obtain ⟨i, rfl, HI, HU, HA, HB⟩ := hrel
     have hi := HI.out
     cases gk with
     | zero =>
       have hlt : decide ((i : Int) < (L.length : Int)) = false := dFz (by omega)
       have hln : decide (i < L.length) = false := dFz (by omega)
       have HB2 := HB.out
       rw [List.take_of_length_le (by omega)] at HB2
       have HBX : Az (Arr64At wr (w.heap.size + 1) (fun q => valR L d (lo + q))) := ⟨HB2⟩
       have HAX := HA
       have HUX := HU
       clear hi HB2
       go_wp2_with (first | (refine wpList_load64 _ rfl _ rfl (w.heap.size + 1) _ rfl HBX.out ?_) | (refine wpList_store64 _ rfl _ _ rfl w.heap.size _ _ rfl rfl HAX.out ?_))
       refine bodyPost_ret (v := .agg (arr64 fun j => valR L d (lo + j))) ?_ rfl ⟨rfl, up_setRow HUX.out (Nat.le_refl _) _⟩
       exact results_cell_row rfl _ _ w.heap.size _ _ _ _ rfl (HAX.out.row (q := fun j => valR L d (lo + j))) Tryz.underlying156 rfl (by rw [arr64_size]; exact arr64_sz)
     | succ k =>
       have hlt : decide ((i : Int) < (L.length : Int)) = true := dTz (by omega)
       have hln : decide (i < L.length) = true := dTz (by omega)
       have p1 : 0 ≤ (i : Int) := by omega
       have p2 : (i : Int) < (L.length : Int) := by omega
       have hr : L[i]? = some L[i] := List.getElem?_eq_getElem (by omega)
       obtain ⟨r, hrr⟩ : ∃ r, L[i]'(by omega) = r := ⟨_, rfl⟩
       rw [hrr] at hr
       obtain ⟨ad, hAd, hrng⟩ := HL.out i r hr
       subst hAd
       obtain ⟨g0, g1, g2⟩ := hrng.up HU.out
       have HR := Az.mk hr
       have hlow := HO.out.low r (List.mem_of_getElem? hr)
       have hval := HO.out.val r (List.mem_of_getElem? hr)
       obtain ⟨k0, k1, k2⟩ := (rngBox_new wr r).cells
       clear hr hrr hrng
       by_cases hbr : lo + 64 ≤ r.lo
       ·have b1 : decide (lo + 64 ≤ r.lo) = true := dTz hbr
        have HB1 : Az (Arr64At (wr.alloc (.cells #[.int .i64 r.lo, .int .i64 r.hi, .int .i64 r.val] 175)) (w.heap.size + 1) (fun q => valR L d (lo + q))) := ⟨(HB.out.congr (fun q hq => valR_stop HO.out HR.out (by omega))).alloc _⟩
        have HBX := HB1
        have HAX := Az.mk (HA.out.alloc (.cells #[.int .i64 r.lo, .int .i64 r.hi, .int .i64 r.val] 175))
        have HUX : Az (Up w (wr.alloc (.cells #[.int .i64 r.lo, .int .i64 r.hi, .int .i64 r.val] 175))) := ⟨up_alloc HU.out _⟩
        go_wp2_with (first | (refine wpList_load64 _ rfl _ rfl (w.heap.size + 1) _ rfl HBX.out ?_) | (refine wpList_store64 _ rfl _ _ rfl w.heap.size _ _ rfl rfl HAX.out ?_))
        refine bodyPost_ret (v := .agg (arr64 fun j => valR L d (lo + j))) ?_ rfl ⟨rfl, up_setRow HUX.out (Nat.le_refl _) _⟩
        exact results_cell_row rfl _ _ w.heap.size _ _ _ _ rfl (HAX.out.row (q := fun j => valR L d (lo + j))) Tryz.underlying156 rfl (by rw [arr64_size]; exact arr64_sz)
       ·have b1 : decide (lo + 64 ≤ r.lo) = false := dFz hbr
        go_wp2
        have HUX : Az (Up w (wr.alloc (.cells #[.int .i64 r.lo, .int .i64 r.hi, .int .i64 r.val] 175))) := ⟨up_alloc HU.out _⟩
        have HAX := Az.mk (HA.out.alloc (.cells #[.int .i64 r.lo, .int .i64 r.hi, .int .i64 r.val] 175))
        have HBX := Az.mk (HB.out.alloc (.cells #[.int .i64 r.lo, .int .i64 r.hi, .int .i64 r.val] 175))
        have HRX := Az.mk (rngBox_new wr r)
        have HG : Az (w.heap.size + 1 < wr.heap.size) := ⟨(Array.getElem?_eq_some_iff.1 HB.out).1⟩
        have HLOW := Az.mk hlow
        have HVAL := Az.mk hval
        have HBR := Az.mk hbr
        clear k0 k1 k2 g0 g1 g2 HU HA HB hlow hval b1 hlt hln p1 p2 hbr
        obtain ⟨wo, rfl⟩ : ∃ wo : World, wo = wr := ⟨_, rfl⟩
        go_loopg [11] (64 - (max r.lo lo - lo).toNat) (fun k v11 w' => ∃ (x : Int) (q : Nat), v11 = .int .i64 x ∧ Az (x = lo + q ∧ q + k = 64 ∧ r.lo ≤ x ∧ (x ≤ r.hi + 1 ∨ q = 0)) ∧ Az (Up w w') ∧ Az (Arr64At w' w.heap.size (fun x => 0)) ∧ Az (Arr64At w' (w.heap.size + 1) (fun p => if r.lo ≤ lo + p ∧ p < q then r.val else valR (L.take i) d (lo + p))) ∧ Az (RngBox w' wo.heap.size r))
        case atStart => exact ⟨max r.lo lo, (max r.lo lo - lo).toNat, rfl, ⟨by have := HBR.out; have := HLOW.out; omega⟩, HUX, HAX, ⟨HBX.out.congr (fun p hp => by rw [if_neg (by omega)])⟩, HRX⟩
        case round =>
         clear HUX HAX HBX HRX
         obtain ⟨x, q, rfl, HX, HU, HA, HB, HRB⟩ := hrel
         obtain ⟨k0, k1, k2⟩ := HRB.out.cells
         by_cases hle : x ≤ min r.hi (lo + 64 - 1)
         ·have b2 : decide (x ≤ min r.hi (lo + 64 - 1)) = true := dTz hle
          have hx := HX.out
          have hlow := HLOW.out
          have hval := HVAL.out
          have hq64 : q < 64 := by omega
          obtain ⟨k', rfl⟩ : ∃ k', gk = k' + 1 := ⟨gk - 1, by omega⟩
          have q1 : 0 ≤ x - lo := by omega
          have q2 : x - lo < 64 := by omega
          have q3 : (x - lo).toNat = q := by omega
          have q4 : 0 ≤ x := by omega
          have q5 : x ≤ 1114111 := by omega
          have q6 : 0 ≤ r.val := hval.1
          have q7 : r.val ≤ 65535 := hval.2
          have HQ := Az.mk hq64
          have HLE := Az.mk hle
          have hcell := HB.out.cell q hq64
          have hfr := HB.out.frozen q
          clear hx hlow hval hq64 hle
          go_wp2
          go_roundg k'
          case measure => omega
          case rel => exact ⟨x + 1, q + 1, rfl, ⟨by have := HX.out; have := HLE.out; omega⟩, ⟨up_setCell HU.out (Nat.le_succ _) _⟩, ⟨HA.out.other (by simp) _⟩, ⟨(HB.out.set q HQ.out r.val).congr (fun p hp => by
           have hx := HX.out
           by_cases hpq : p = q
           ·subst hpq
            rw [if_pos rfl, if_pos (by omega)]
           ·rw [if_neg hpq]
            by_cases hin : r.lo ≤ lo + p ∧ p < q
            ·rw [if_pos hin, if_pos (by omega)]
            ·rw [if_neg hin, if_neg (by omega)])⟩, ⟨HRB.out.other (by have := HG.out; simp; omega) _⟩⟩
         ·have b2 : decide (x ≤ min r.hi (lo + 64 - 1)) = false := dFz hle
          have HLE := Az.mk hle
          clear hle
          go_wp2
          go_roundg k
          case measure => have := HI.out; omega
          case rel => exact ⟨i + 1, rfl, ⟨by have := HI.out; omega⟩, HU, HA, ⟨HB.out.congr (fun p hp => by
           have hx := HX.out
           have hle := HLE.out
           have hlow := HLOW.out
           by_cases hin : r.lo ≤ lo + p ∧ lo + (p : Int) ≤ r.hi
           ·rw [if_pos (by omega), valR_take_hit HO.out HR.out hin.1 hin.2]
           ·rw [if_neg (by omega), valR_take_miss HR.out hin])⟩⟩
end Go.Proofs.YtnohcnneflogjaaGreat.M
namespace Go.Proofs.YtnohcnneflogjaaGreat.M
open Go.RowKit
theorem twrong_calls (A : Option Addr) (c : Nat) (L : List Rng) (w : World) (hL : Rngs w A L) (hO : Ordered L) (hlen : L.length ≤ 1073741824) :
 Calls Tryz.prog 215 #[.slice A L.length c, .int .i64 0] w fun e w' => e = .returned (.tuple #[.int .i64 0, .int .i64 0]) ∧ Up w w' := by
 have hu157 := Tryz.underlying175
 have HL := Az.mk hL
 have HO := Az.mk hO
 clear hL hO
 go_enter Tryz.func215, Tryz.ntmps215
 go_wp2
 go_loopg [10] L.length (fun k v10 w' => ∃ i : Nat, v10 = .int .i64 i ∧ Az (i + k = L.length) ∧ Az (Up w w'))
 case atStart => exact ⟨0, rfl, ⟨Nat.zero_add _⟩, ⟨up_refl _⟩⟩
 case round =>
  obtain ⟨i, rfl, HI, HU⟩ := hrel
  have hi := HI.out
  cases gk with
  | zero =>
    have hlt : decide ((i : Int) < (L.length : Int)) = false := dFz (by omega)
    have hln : decide (i < L.length) = false := dFz (by omega)
    clear hi
    go_wp2
    go_ret2
    exact ⟨rfl, HU.out⟩
  | succ k =>
    have hlt : decide ((i : Int) < (L.length : Int)) = true := dTz (by omega)
    have hln : decide (i < L.length) = true := dTz (by omega)
    have p1 : 0 ≤ (i : Int) := by omega
    have p2 : (i : Int) < (L.length : Int) := by omega
    have hr : L[i]? = some L[i] := List.getElem?_eq_getElem (by omega)
    obtain ⟨r, hrr⟩ : ∃ r, L[i]'(by omega) = r := ⟨_, rfl⟩
    rw [hrr] at hr
    obtain ⟨ad, hAd, hrng⟩ := HL.out i r hr
    subst hAd
    obtain ⟨g0, g1, g2⟩ := hrng.up HU.out
    have HR := Az.mk hr
    have hlow := HO.out.low r (List.mem_of_getElem? hr)
    have hval := HO.out.val r (List.mem_of_getElem? hr)
    obtain ⟨k0, k1, k2⟩ := (rngBox_new wr r).cells
    have b1 : decide (r.lo < 0) = false := dFz (by omega)
    have b2 : decide (1114111 < r.hi) = false := dFz (by omega)
    have b3 : decide (r.hi < r.lo) = false := dFz (by omega)
    have b4 : decide (r.val < 0) = false := dFz (by omega)
    have b5 : decide (65535 < r.val) = false := dFz (by omega)
    clear hrr hrng hlow hval
    by_cases h0 : i = 0
    ·have b6 : decide ((0 : Int) < (i : Int)) = false := dFz (by omega)
     have b7 : decide (0 < i) = false := dFz (by omega)
     clear hi hr h0
     go_wp2
     go_quiet (fail)
     go_wp2
     go_roundg k
     case measure => have := HI.out; omega
     case rel => exact ⟨i + 1, rfl, ⟨by have := HI.out; omega⟩, ⟨up_drewN (up_alloc HU.out _) _⟩⟩
    ·have b6 : decide ((0 : Int) < (i : Int)) = true := dTz (by omega)
     have b7 : decide (0 < i) = true := dTz (by omega)
     have hq : L[i - 1]? = some L[i - 1] := List.getElem?_eq_getElem (by omega)
     obtain ⟨q, hqq⟩ : ∃ q, L[i - 1]'(by omega) = q := ⟨_, rfl⟩
     rw [hqq] at hq
     obtain ⟨ad', hAd', hrng'⟩ := HL.out (i - 1) q hq
     cases hAd'
     obtain ⟨f0, f1, f2⟩ := hrng'.up (up_alloc HU.out (.cells #[.int .i64 r.lo, .int .i64 r.hi, .int .i64 r.val] 175))
     have b8 : decide (r.lo ≤ q.hi) = false := dFz (by have := HO.out.lt (show i - 1 < i by omega) hq hr; omega)
     have q1 : 0 ≤ (i : Int) - 1 := by omega
     have q2 : (i : Int) - 1 < (L.length : Int) := by omega
     have q3 : ((i : Int) - 1).toNat = i - 1 := by omega
     clear hi hr hq hqq hrng' h0
     go_wp2
     go_quiet (fail)
     go_wp2
     go_roundg k
     case measure => have := HI.out; omega
     case rel => exact ⟨i + 1, rfl, ⟨by have := HI.out; omega⟩, ⟨up_drewN (up_alloc HU.out _) _⟩⟩
end Go.Proofs.YtnohcnneflogjaaGreat.M
