/- A weight narrowed: some float; the language leaves open which, where the weight is too great. -/
import Derived.Test.YtnohcnneflogjaaGreatK03
import Derived.Laws.FloatArith
import Derived.Test.YtnohcnneflogjaaGreatK30
import Derived.Deep.RegionLaw
set_option maxHeartbeats 16000000
set_option maxRecDepth 100000
set_option linter.unusedVariables false
set_option linter.unusedSimpArgs false
namespace Go.Proofs.YtnohcnneflogjaaGreat.M
open Go.RowKit
theorem run_conv_any {P : Program} (src dst : TypeId) (s k : FloatKind) (b : Nat) (hs : (P.underlying src).isSome = true) (hd : P.underlying dst = some (.float k)) (w : World) :
 ∃ r q, (convert src dst (.float s b)).run P w = .ok (.float k r) (w.drewN q) := by
 obtain ⟨u, hs'⟩ := Option.isSome_iff_exists.1 hs
 have key : ∃ r q, (Conv.floatToFloat s b k).run P w = .ok (.float k r) (w.drewN q) := by
  unfold Conv.floatToFloat
  split
  ·exact ⟨_, 0, rfl⟩
  ·split
   ·exact ⟨_, 1, rfl⟩
   ·exact ⟨_, 0, rfl⟩
   ·dsimp only
    split
    ·exact ⟨_, 1, rfl⟩
    ·exact ⟨_, 0, rfl⟩
 obtain ⟨r, q, h⟩ := key
 refine ⟨r, q, ?_⟩
 cases u <;> simp [convert, run_underlying hs', run_underlying hd, h]
def NarrowOk (u r : Nat) : Prop := u = 4591870180066957722 → r = 4591870180174331904
theorem conv_tenth1 (w : World) : (convert 111 214 (.float .f64 4591870180066957722)).run Tryz.prog w = .ok (.float .f32 1036831949) w := by kernel_rfl
theorem conv_tenth2 (w : World) : (convert 214 111 (.float .f32 1036831949)).run Tryz.prog w = .ok (.float .f64 4591870180174331904) w := by kernel_rfl
theorem Narrow_calls (u : Nat) (hu : u ≤ 9218868437227405312) (w : World) : Calls Tryz.prog 164 #[.float .f64 u] w fun e w' => ∃ r q, e = .returned (.float .f64 r) ∧ w' = w.drewN q ∧ NarrowOk u r := by
 have ho := order_self u
 rw [dTz (show u % 9223372036854775808 ≤ 9218868437227405312 by omega)] at ho
 have hn : (FloatKind.f64.format.order u u != some Ordering.eq) = false := by rw [bne, ho]; rfl
 obtain ⟨r1, q1, r2, q2, hc1, hc2, HOK⟩ : ∃ r1 q1 r2 q2, (convert 111 214 (.float .f64 u)).run Tryz.prog w = .ok (.float .f32 r1) (w.drewN q1) ∧ (convert 214 111 (.float .f32 r1)).run Tryz.prog (w.drewN q1) = .ok (.float .f64 r2) ((w.drewN q1).drewN q2) ∧ Az (NarrowOk u r2) := by
  by_cases he : u = 4591870180066957722
  ·subst he
   exact ⟨_, 0, _, 0, conv_tenth1 w, conv_tenth2 _, ⟨fun _ => rfl⟩⟩
  ·obtain ⟨r1, q1, hc1⟩ := run_conv_any (P := Tryz.prog) 111 214 .f64 .f32 u (by rw [Tryz.underlying111]; rfl) Tryz.underlying214 w
   obtain ⟨r2, q2, hc2⟩ := run_conv_any (P := Tryz.prog) 214 111 .f32 .f64 r1 (by rw [Tryz.underlying214]; rfl) Tryz.underlying111 (w.drewN q1)
   exact ⟨r1, q1, r2, q2, hc1, hc2, ⟨fun h => absurd h he⟩⟩
 clear hu ho
 go_enter Tryz.func164, Tryz.ntmps164
 go_wp2
 go_ret
 exact ⟨r2, q1 + q2, rfl, rfl, HOK.out⟩
end Go.Proofs.YtnohcnneflogjaaGreat.M
namespace Go.Proofs.YtnohcnneflogjaaGreat.M
open Go.RowKit
theorem f64Info : (Tryz.prog.info? 111).map (fun i => (i.zero.map (fun z => z.cells.size), i.size, i.bytes)) = some (some 1, 1, 8) := by kernel_rfl
theorem f64_info : ∃ (i : TypeInfo) (z : Value), Tryz.prog.info? 111 = some i ∧ i.zero = some z ∧ i.size = 1 ∧ i.bytes = 8 ∧ z.cells.size = 1 := by
 have h := f64Info
 cases hq : Tryz.prog.info? 111 with
 | none => rw [hq] at h; cases h
 | some i =>
   rw [hq] at h
   simp only [Option.map_some, Option.some.injEq, Prod.mk.injEq] at h
   cases hz : i.zero with
   | none => rw [hz] at h; cases h.1
   | some z =>
     rw [hz] at h
     simp only [Option.map_some, Option.some.injEq] at h
     exact ⟨i, z, rfl, hz, h.2.1, h.2.2, h.1⟩
theorem build_f64 (r : Nat) (w : World) : (Instr.buildSlice 51 1 #[(0, .float .f64 r)]).run Tryz.prog w = .ok (.slice (some ⟨w.heap.size, 0, none⟩) 1 1) (w.alloc (.cells #[.float .f64 r] 111)) := by kernel_rfl
def flts (L : List Nat) : List Value := L.map (Value.float .f64)
structure CostI (H gP bm : Nat) (L : List Nat) (A : Option Addr) (c : Nat) (w : World) : Prop where
 box : w.heap[gP]? = some (.cells #[.pointer none, .slice A L.length c, .map (some bm)] 54 (0, 0))
 row : w.ownsRow H 111 1 (.slice A L.length c) L.length (flts L)
 ne : H ≤ gP ∧ bm < gP ∧ ∀ k, (Value.slice A L.length c).ownBlock = some k → gP < k
def costS (gP : Nat) (v : Value) (k : Nat) : Prop := k = gP ∨ v.ownBlock = some k
theorem CostI.lt {H gP bm : Nat} {L : List Nat} {A : Option Addr} {c : Nat} {w : World} (h : CostI H gP bm L A c w) (k : Nat) (hk : costS gP (.slice A L.length c) k) : k < w.heap.size := by
 rcases hk with rfl | hk
 ·exact (Array.getElem?_eq_some_iff.1 h.box).1
 ·exact (h.row.lt k hk).2
theorem CostI.st {H gP bm : Nat} {L : List Nat} {A : Option Addr} {c : Nat} {w w' : World} {M : Nat → Prop} (h : CostI H gP bm L A c w) (hc : Chg M w w') (hM : ∀ k, costS gP (.slice A L.length c) k → ¬ M k) : CostI H gP bm L A c w' := by
 refine ⟨?_, own_chg h.row hc (fun k hk => hM k (.inr hk)), h.ne⟩
 rw [hc.block gP (h.lt gP (.inl rfl)) (hM gP (.inl rfl))]; exact h.box
theorem CostI.snoc {H gP bm : Nat} {L : List Nat} {r : Nat} {A : Option Addr} {c : Nat} {w : World}
 (h2 : w.heap[gP]? = some (.cells #[.pointer none, .slice A (L.length + 1) c, .map (some bm)] 54 (0, 0))) (h3 : w.ownsRow H 111 1 (.slice A (L.length + 1) c) (L.length + 1) (flts L ++ [.float .f64 r]))
 (h5 : H ≤ gP ∧ bm < gP ∧ ∀ k, (Value.slice A (L.length + 1) c).ownBlock = some k → gP < k) : CostI H gP bm (L ++ [r]) A c w := by
 have e : (L ++ [r]).length = L.length + 1 := by simp
 have e2 : flts (L ++ [r]) = flts L ++ [.float .f64 r] := by simp [flts]
 exact ⟨by rw [e]; exact h2, by rw [e, e2]; exact h3, by rw [e]; exact h5⟩
theorem costO_cells {w : World} {g : Nat} {a b d : Value} (h : w.heap[g]? = some (.cells #[a, b, d] 54 (0, 0))) : w.cell? ⟨g, 0, none⟩ = some a ∧ w.cell? ⟨g, 1, none⟩ = some b ∧ w.cell? ⟨g, 2, none⟩ = some d ∧ w.frozen? ⟨g, 0, none⟩ = false ∧ w.frozen? ⟨g, 1, none⟩ = false ∧ w.frozen? ⟨g, 2, none⟩ = false := by
 refine ⟨?_, ?_, ?_, ?_, ?_, ?_⟩ <;> simp [World.cell?, World.frozen?, h]
theorem costs1_calls (H gP bm : Nat) (L : List Nat) (A : Option Addr) (c : Nat) (x : Rec) (A' : Option Addr) (c' : Nat) (w : World) (hI : CostI H gP bm L A c w) (hw : x.weight ≤ 9218868437227405312) (hl : L.length ≤ 4096) :
 Calls Tryz.prog 163 #[recV x A' c', .pointer (some ⟨gP, 0, none⟩)] w fun e w' => ∃ r A2 c2, e = .returned (.int .i64 ((L.length : Int) + 1)) ∧ NarrowOk x.weight r ∧
  CostI H gP bm (L ++ [r]) A2 c2 w' ∧ Chg (costS gP (.slice A L.length c)) w w' ∧ ∀ k, costS gP (.slice A2 (L.length + 1) c2) k → costS gP (.slice A L.length c) k ∨ w.heap.size ≤ k := by
 have hu96 := Tryz.underlying113
 have HI := Az.mk hI
 have HW := Az.mk hw
 have hup1 : Up w (w.alloc (recO x A' c')).drew := up_drew (up_alloc (up_refl _) _)
 have HUP1 := Az.mk hup1
 have HB1 := Az.mk (up_block (up_alloc (up_refl w) (recO x A' c')) hI.box)
 obtain ⟨e0, e1, e2, e3, e4, e5⟩ := costO_cells HB1.out
 have HE1 := Az.mk e1
 have HNE : Az (gP < w.heap.size ∧ ∀ k, (Value.slice A L.length c).ownBlock = some k → gP < k) := ⟨hI.lt gP (.inl rfl), hI.ne.2.2⟩
 have HBS : Az (H ≤ w.heap.size) := ⟨by have := hI.ne.1; have := hI.lt gP (.inl rfl); omega⟩
 obtain ⟨k0, k1, k2, k3, k4, k5, k6, k7⟩ := recBox_new w x A' c'
 obtain ⟨ie, ze, hie, hze, hsi, hby, hzc⟩ := f64_info
 have hbs := build_f64
 have HLEN : Az (L.length + 1 ≤ maxLen ∧ (L.length + 1) * 8 ≤ 140737488355328) := ⟨by unfold maxLen; omega⟩
 clear hI hup1 hw
 go_enter Tryz.func163, Tryz.ntmps163
 go_wp2
 go_region_law (first | (refine step_append_lies _ (by rfl) _ _ _ (by rfl) H 111 ie _ 1 8 Tryz.underlying51 hie hze hsi hby hzc (by omega) (.slice A L.length c) L.length (flts L) (by rfl) (own_up HI.out.row (HUP2.out _)) ⟨w.heap.size + 1, 0, none⟩ 1 1 [.float .f64 r] (by rfl) (by rfl) HNEWS.out (by simp [Value.oneCell']) (by omega) HLEN.out.1 HLEN.out.2 (Nat.le_trans HBS.out (HUP2.out _).size) (w.heap.size + 1 + 1) (by simp) ?_; intro gg cap w3 hown3 hgrow3 hat3 hlt3; have hb3 := grown_block hgrow3 (up_block (HUP2.out _) HI.out.box) (fun e => by have := HNE.out.2 gP e.symm; omega); obtain ⟨s0, s1, s2, s3, s4, s5⟩ := costO_cells hb3) | (go_simp; go_at_call 164; (refine (Narrow_calls x.weight HW.out _).mono ?_); rintro e w2 ⟨r, q, rfl, rfl, hok⟩; have HUP2 : Az (∀ o, Up w (((w.alloc (recO x A' c')).drewN (1 + q)).alloc o)) := ⟨fun o => up_alloc (up_drewN (up_alloc (up_refl _) _) _) o⟩; have e1b : ∀ o, (((w.alloc (recO x A' c')).drewN (1 + q)).alloc o).cell? ⟨gP, 1, none⟩ = some (.slice A L.length c) := (fun o => up_cell (up_alloc (up_refl _) o) HE1.out); have HNEWS : Az (∀ (j : Nat) (u : Value), [Value.float .f64 r][j]? = some u → (((w.alloc (recO x A' c')).drewN (1 + q)).alloc (.cells #[.float .f64 r] 111)).cell? ((⟨w.heap.size + 1, 0, none⟩ : Addr).add j) = some u) := ⟨by have hb := heap_alloc_new ((w.alloc (recO x A' c')).drewN (1 + q)) (.cells #[.float .f64 r] 111); rw [show ((w.alloc (recO x A' c')).drewN (1 + q)).heap.size = w.heap.size + 1 by simp] at hb; exact World.news_of_block (cs := #[.float .f64 r]) (t := 111) (fr := (0, 0)) hb⟩))
 all_goals
  go_wp2
  go_ret
 all_goals
  have hgg : gP < gg := by
   rcases hat3 with h | h
   ·exact HNE.out.2 gg h
   ·have := HNE.out.1
    omega
  have hb4 : (w3.setCell ⟨gP, 1, none⟩ (.slice (some ⟨gg, 0, none⟩) (L.length + 1) cap)).heap[gP]? = some (.cells #[.pointer none, .slice (some ⟨gg, 0, none⟩) (L.length + 1) cap, .map (some bm)] 54 (0, 0)) := by
   rw [box_set hb3]
   rfl
  have hch : Chg (costS gP (.slice A L.length c)) w (w3.setCell ⟨gP, 1, none⟩ (.slice (some ⟨gg, 0, none⟩) (L.length + 1) cap)) := ((Chg.of_up (M := costS gP (.slice A L.length c)) (HUP2.out _)).trans (Chg.of_grown (M := costS gP (.slice A L.length c)) hgrow3 (fun k e => .inr e)) (fun k h => .inl h)).trans (Chg.of_set (M := costS gP (.slice A L.length c)) w3 _ _ (.inl rfl)) (fun k h => .inl h)
  have hown4 : (w3.setCell ⟨gP, 1, none⟩ (.slice (some ⟨gg, 0, none⟩) (L.length + 1) cap)).ownsRow H 111 1 (.slice (some ⟨gg, 0, none⟩) (L.length + 1) cap) (L.length + 1) (flts L ++ [.float .f64 r]) := own_block hown3 (fun g hg => by
   have hg' : gg = g := by injection hg
   subst hg'
   exact Below.heap_setCell _ _ _ _ (show gg ≠ gP by omega))
  refine ⟨r, some ⟨gg, 0, none⟩, cap, rfl, hok, CostI.snoc hb4 hown4 ⟨HI.out.ne.1, HI.out.ne.2.1, fun k hk => ?_⟩, hch, fun k hk => ?_⟩
  ·have hk' : gg = k := by injection hk
   omega
  ·rcases hk with h | h
   ·exact .inl (.inl h)
   ·have hk' : gg = k := by injection h
    subst hk'
    rcases hat3 with h | h
    ·exact .inl (.inr h)
    ·right
     omega
def CostL (P : List Rec) (L : List Nat) : Prop := L.length = P.length ∧ ∀ (i : Nat) (x : Rec) (l : Nat), P[i]? = some x → L[i]? = some l → NarrowOk x.weight l
theorem CostL.snoc {P : List Rec} {L : List Nat} (h : CostL P L) {x : Rec} {r : Nat} (hr : NarrowOk x.weight r) : CostL (P ++ [x]) (L ++ [r]) := by
 refine ⟨by simp [h.1], fun i y l hy hl => ?_⟩
 rcases Nat.lt_or_ge i P.length with hi | hi
 ·rw [List.getElem?_append_left hi] at hy
  rw [List.getElem?_append_left (by rw [h.1]; exact hi)] at hl
  exact h.2 i y l hy hl
 ·rw [List.getElem?_append_right hi] at hy
  rw [List.getElem?_append_right (by rw [h.1]; exact hi), h.1] at hl
  cases hq : i - P.length with
  | zero =>
    rw [hq] at hy hl
    cases hy
    cases hl
    exact hr
  | succ n =>
    rw [hq] at hy
    cases hy
def CostInv (H gP bm : Nat) (P : List Rec) (j : Nat) (w : World) (S : Nat → Prop) : Prop := ∃ L A c, CostI H gP bm L A c w ∧ CostL (P.take j) L ∧ S = costS gP (.slice A L.length c)
def costV (j : Nat) : Int := (j : Int) + 1
theorem cost_clos (H gP bm : Nat) (P : List Rec) (hw : ∀ x ∈ P, x.weight ≤ 9218868437227405312) (hl : P.length ≤ 4096) : Clos P costV 163 #[.pointer (some ⟨gP, 0, none⟩)] (CostInv H gP bm P) := by
 refine ⟨?_, ?_, ?_⟩
 ·rintro j w S ⟨L, A, c, h, _, rfl⟩ k hk
  exact h.lt k hk
 ·rintro j w w' S M ⟨L, A, c, h, hL, rfl⟩ hc hM
  exact ⟨L, A, c, h.st hc hM, hL, rfl⟩
 ·rintro j w S x A' c' ⟨L, A, c, h, hL, rfl⟩ hx
  have hj : j < P.length := (List.getElem?_eq_some_iff.1 hx).1
  have hlen : L.length = j := by
   have := hL.1
   rw [List.length_take] at this
   omega
  refine (costs1_calls H gP bm L A c x A' c' w h (hw x (List.mem_of_getElem? hx)) (by omega)).mono ?_
  rintro e w' ⟨r, A2, c2, rfl, hok, hI, hch, hS⟩
  refine ⟨by rw [hlen]; rfl, _, ⟨L ++ [r], A2, c2, hI, ?_, rfl⟩, hch, fun k hk => hS k (by simpa using hk)⟩
  have : P.take (j + 1) = P.take j ++ [x] := by
   rw [List.take_add_one, hx]
   rfl
  rw [this]
  exact hL.snoc hok
end Go.Proofs.YtnohcnneflogjaaGreat.M
namespace Go.Proofs.YtnohcnneflogjaaGreat.M
open Go.RowKit Go.WideMaps
def namesV (p : ByteArray × ByteArray) : Value := .agg #[.string p.1, .string p.2]
theorem namesV_inj (a b : ByteArray × ByteArray) (h : namesV a = namesV b) : a = b := by
 unfold namesV at h
 simp at h
 exact Prod.ext h.1 h.2
theorem keyed_names : Go.Maps.Keyed Tryz.prog 181 := Go.Maps.Keyed.of_law (deep_law_laid laidOut (m := 2) (by omega) (of_decide_eq_true (by kernel_rfl)) (by kernel_rfl) (by kernel_rfl))
theorem lits_str {P : Program} {t : TypeId} {s : ByteArray} (d : Nat) (ht : P.underlying t = some .string) (hw : s.size ≤ maxLen) : ∃ l, P.keyLits (d + 1) t [.string s] = some l := by
 unfold Program.keyLits
 rw [ht]
 simp [hw]
theorem key_names {a b : ByteArray} (ha : a.size ≤ maxLen) (hb : b.size ≤ maxLen) : KeyOk Tryz.prog 181 (namesV (a, b)) := by
 have hu := Tryz.underlying181
 have hc : Tryz.prog.cellsOf 181 = 2 := by kernel_rfl
 have hc1 : Tryz.prog.cellsOf 9 = 1 := by kernel_rfl
 obtain ⟨m, hm⟩ := types_succ
 obtain ⟨l1, h1⟩ := lits_str (P := Tryz.prog) m Tryz.underlying9 ha
 obtain ⟨l2, h2⟩ := lits_str (P := Tryz.prog) m Tryz.underlying9 hb
 refine keyOk_lits (ls := l1 ++ l2) (by kernel_rfl) (by kernel_rfl) ?_ ?_
 ·simp [namesV, Value.formed, hu, hc]
 ·unfold Program.keyLits
  rw [hu, hm]
  simp [namesV, Value.cells, hc, hc1, h1, h2, List.mapM_cons]
def costO0 : Obj := .cells #[.pointer none, .slice none 0 0, .map none] 54 (0, 0)
def costW0 (w : World) (bm : Nat) : World := ((w.alloc costO0).alloc (.map #[] 0)).alloc (.cells #[.pointer none, .slice none 0 0, .map (some bm)] 54 (0, 0))
def MixMap (H : Nat) (w : World) (b m : Nat) : Prop := ∃ G, ValMap 181 namesV H w b m G
theorem costW0_ok (w : World) (gP bm : Nat) (e1 : w.heap.size + 1 = bm) (e2 : bm + 1 = gP) :
 Up w (costW0 w bm) ∧ (costW0 w bm).heap[w.heap.size]? = some costO0 ∧ CostI (w.heap.size + 1) gP bm [] none 0 (costW0 w bm) ∧ MixMap (w.heap.size + 1) (costW0 w bm) bm 0 := by
 unfold costW0
 generalize hw1 : w.alloc costO0 = w1
 have s1 : w1.heap.size = bm := by rw [← hw1, ← e1]; simp
 have u1 : Up w w1 := by rw [← hw1]; exact up_alloc (up_refl _) _
 have b1 : w1.heap[w.heap.size]? = some costO0 := by rw [← hw1]; exact heap_alloc_new w _
 have m3 := ValMap.made (k := 181) (key := namesV) (H := w.heap.size + 1) w1 (by omega)
 generalize hw3 : w1.alloc (.map #[] 0) = w3 at *
 have s3 : w3.heap.size = gP := by rw [← hw3, ← e2, ← s1]; simp
 have u3 : Up w1 w3 := by rw [← hw3]; exact up_alloc (up_refl _) _
 have b4 := heap_alloc_new w3 (.cells #[.pointer none, .slice none 0 0, .map (some bm)] 54 (0, 0))
 have u4 : Up w3 (w3.alloc (.cells #[.pointer none, .slice none 0 0, .map (some bm)] 54 (0, 0))) := up_alloc (up_refl _) _
 generalize w3.alloc (.cells #[.pointer none, .slice none 0 0, .map (some bm)] 54 (0, 0)) = w4 at *
 rw [s3] at b4
 rw [s1] at m3
 have u34 := up_trans u3 u4
 refine ⟨up_trans u1 u34, up_block u34 b1, ⟨b4, World.ownsRow_nil _ _ _ _, by omega, by omega, fun k h => by cases h⟩, _, m3.up u4⟩
def costF (T : List Rec) (c : Int) : Int := valR (rngsOf costV 0 (ofKind T 14)) 0 c
structure CostAt (H : Nat) (w : World) (b bm : Nat) (A : Option Addr) (n c : Nat) (T : List Rec) : Prop where
 trie : TrieFrom H w b (costF T)
 row : ∃ L, n = L.length ∧ CostL (ofKind T 14) L ∧ w.ownsRow H 111 1 (.slice A L.length c) L.length (flts L)
 mix : ∃ m, m ≤ 2 * T.length ∧ MixMap H w bm m
theorem MixMap.chg {M : Nat → Prop} {H : Nat} {w w' : World} {b m : Nat} (h : MixMap H w b m) (hc : Chg M w w') (hM : ∀ k, M k → k < H ∨ w.heap.size ≤ k) : MixMap H w' b m := by
 obtain ⟨G, h⟩ := h
 exact ⟨G, h.chg hc hM⟩
theorem own_from {M : Nat → Prop} {H : Nat} {w w' : World} {e : TypeId} {size : Nat} {v : Value} {n : Nat} {xs : List Value} (h : w.ownsRow H e size v n xs) (hc : Chg M w w') (hM : ∀ k, M k → k < H ∨ w.heap.size ≤ k) : w'.ownsRow H e size v n xs :=
 own_chg h hc (fun k hk hm => by have := h.lt k hk; rcases hM k hm with e | e <;> omega)
theorem CostAt.chg {M : Nat → Prop} {H : Nat} {w w' : World} {b bm : Nat} {A : Option Addr} {n c : Nat} {T : List Rec} (h : CostAt H w b bm A n c T) (hc : Chg M w w') (hM : ∀ k, M k → k < H ∨ w.heap.size ≤ k) : CostAt H w' b bm A n c T := by
 obtain ⟨L, h1, h2, h3⟩ := h.row
 obtain ⟨m, h4, h5⟩ := h.mix
 exact ⟨h.trie.chg hc hM, ⟨L, h1, h2, own_from h3 hc hM⟩, ⟨m, h4, h5.chg hc hM⟩⟩
def costRet (w : World) (g : Nat) (p v m : Value) : World := ((w.setCell ⟨g, 0, none⟩ p).setCell ⟨g, 1, none⟩ v).setCell ⟨g, 2, none⟩ m
theorem costRet_ok {w : World} {g : Nat} (p v m : Value) {a b d : Value} (h : w.heap[g]? = some (.cells #[a, b, d] 54 (0, 0))) : (costRet w g p v m).heap[g]? = some (.cells #[p, v, m] 54 (0, 0)) ∧ Chg (fun k => k = g) w (costRet w g p v m) := by
 unfold costRet
 refine ⟨?_, ?_⟩
 ·rw [box_set (box_set (box_set h 0 _) 1 _) 2 _]
  rfl
 ·exact ((Chg.of_set (M := fun k => k = g) w _ _ rfl).trans (Chg.of_set (M := fun k => k = g) _ _ _ rfl) (fun _ h => .inl h)).trans (Chg.of_set (M := fun k => k = g) _ _ _ rfl) (fun _ h => .inl h)
theorem newCosts_calls (A : Option Addr) (c : Nat) (T : List Rec) (w : World) (hT : Table w A T) (hG : Good T) :
 Calls Tryz.prog 126 #[.slice A T.length c] w fun e w' => ∃ b bm A' n c', e = .returned (.agg #[.pointer (some ⟨b, 0, none⟩), .slice A' n c', .map (some bm)]) ∧ CostAt (w.heap.size + 1) w' b bm A' n c' T ∧ Up w w' := by
 have hu96 := Tryz.underlying113
 have hmm := @run_makeMap Tryz.prog
 have hmf : ∀ (fn : Fn) (first cap : Array Value) (w : World), (Instr.makeFunc fn first cap).run Tryz.prog w = .ok (.func fn first cap) w := fun _ _ _ _ => rfl
 obtain ⟨hup0, hret0, hI0, hmix0⟩ := costW0_ok w (w.heap.size + 1 + 1) (w.heap.size + 1) rfl rfl
 have HT := Az.mk hT
 have HG := Az.mk hG
 have hP : ∀ x ∈ ofKind T 14, x ∈ T ∧ x.kind = 14 := fun x hx => ⟨(List.mem_filter.1 hx).1, by simpa [ofKind] using (List.mem_filter.1 hx).2⟩
 have hPl : (ofKind T 14).length ≤ T.length := List.length_filter_le _ _
 have HC : Az (Clos (ofKind T 14) costV 163 #[.pointer (some ⟨w.heap.size + 1 + 1, 0, none⟩)] (CostInv (w.heap.size + 1) (w.heap.size + 1 + 1) (w.heap.size + 1) (ofKind T 14))) :=
  ⟨cost_clos _ _ _ _ (fun x hx => by
   have hf := (hG.right x (hP x hx).1).fits
   have hk := (hP x hx).2
   unfold fitsB at hf
   simp [hk, weightB] at hf
   omega) (by have := hG.len; omega)⟩
 have HIN : Az (CostInv (w.heap.size + 1) (w.heap.size + 1 + 1) (w.heap.size + 1) (ofKind T 14) 0 (costW0 w (w.heap.size + 1)) (costS (w.heap.size + 1 + 1) nilS)) := ⟨[], none, 0, hI0, ⟨rfl, fun i x l h => by cases h⟩, rfl⟩
 have HSA : Az (∀ ad, A = some ad → 0 < T.length → ¬ costS (w.heap.size + 1 + 1) nilS ad.block) := ⟨fun ad hA hl hs => by
  have := table_lt hT ad hA hl
  rcases hs with h | h
  ·omega
  ·cases h⟩
 have HAP : Az (Apart (rngsOf costV 0 (ofKind T 14))) := ⟨apart_kind hG 14 (by decide) (by decide) _ (fun j hj => by have := hG.len; unfold costV; omega)⟩
 have HUP0 := Az.mk hup0
 have HRET0 := Az.mk hret0
 have HMIX0 := Az.mk hmix0
 clear hT hG hup0 hret0 hI0 hP hPl hmix0
 go_enter Tryz.func126, Tryz.ntmps126
 go_wp2_with (first | (go_at_call 119; (refine (property_costs A c T 14 costV _ _ _ _ (HT.out.up HUP0.out) HG.out.len HC.out HIN.out HSA.out HAP.out).mono ?_); rintro e w1 ⟨b, S, H, rfl, htr, hH, ⟨L2, A2, c2, hI2, hL2, rfl⟩, hSlt, hSold, hch⟩; obtain ⟨e0, e1, e2, e3, e4, e5⟩ := costO_cells hI2.box; have hr1 : w1.heap[w.heap.size]? = some costO0 := (by rw [hch.block w.heap.size (Nat.lt_of_lt_of_le (Array.getElem?_eq_some_iff.1 HRET0.out).1 (Nat.le_refl _)) (by rintro (h | h) <;> first | omega | cases h)]; exact HRET0.out)))
 have hb2 : (w1.setCell ⟨w.heap.size + 1 + 1, 0, none⟩ (.pointer (some ⟨b, 0, none⟩))).heap[w.heap.size + 1 + 1]? = some (.cells #[.pointer (some ⟨b, 0, none⟩), .slice A2 L2.length c2, .map (some (w.heap.size + 1))] 54 (0, 0)) := by
  rw [box_set hI2.box]
  rfl
 have hsz : w.heap.size + 1 + 1 < (costW0 w (w.heap.size + 1)).heap.size := HIN.out.elim (fun L h => h.elim (fun A' h => h.elim (fun c' h => (Array.getElem?_eq_some_iff.1 h.1.box).1)))
 have hset : Chg (fun k => k = w.heap.size + 1 + 1) w1 (w1.setCell ⟨w.heap.size + 1 + 1, 0, none⟩ (.pointer (some ⟨b, 0, none⟩))) := Chg.of_set w1 _ _ rfl
 have HR2 : Az ((w1.setCell ⟨w.heap.size + 1 + 1, 0, none⟩ (.pointer (some ⟨b, 0, none⟩))).heap[w.heap.size]? = some costO0) := ⟨by rw [Below.heap_setCell _ _ _ _ (show w.heap.size ≠ w.heap.size + 1 + 1 by omega)]; exact hr1⟩
 have HTR2 : Az (TrieFrom (w.heap.size + 1) (w1.setCell ⟨w.heap.size + 1 + 1, 0, none⟩ (.pointer (some ⟨b, 0, none⟩))) b (costF T) ∧ w.heap.size + 1 + 1 < H ∧ TrieFrom H (w1.setCell ⟨w.heap.size + 1 + 1, 0, none⟩ (.pointer (some ⟨b, 0, none⟩))) b (costF T)) := ⟨(htr.chg hset (fun k hk => .inl (by omega))).mono (by omega), by omega, htr.chg hset (fun k hk => .inl (by omega))⟩
 have HRW2 : Az ((w1.setCell ⟨w.heap.size + 1 + 1, 0, none⟩ (.pointer (some ⟨b, 0, none⟩))).ownsRow (w.heap.size + 1) 111 1 (.slice A2 L2.length c2) L2.length (flts L2) ∧ ∀ k, (Value.slice A2 L2.length c2).ownBlock = some k → w.heap.size + 1 + 1 < k) := ⟨own_chg hI2.row hset (fun k hk h => by have := hI2.ne.2.2 k hk; omega), hI2.ne.2.2⟩
 have HMX2 : Az (MixMap (w.heap.size + 1) (w1.setCell ⟨w.heap.size + 1 + 1, 0, none⟩ (.pointer (some ⟨b, 0, none⟩))) (w.heap.size + 1) 0) := ⟨by
  obtain ⟨G, hG⟩ := HMIX0.out
  refine ⟨G, hG.block ?_⟩
  rw [Below.heap_setCell _ _ _ _ (show w.heap.size + 1 ≠ w.heap.size + 1 + 1 by omega), hch.block _ (by omega) (by rintro (h | h); omega; cases h)]⟩
 have HUP2 : Az (Up w (w1.setCell ⟨w.heap.size + 1 + 1, 0, none⟩ (.pointer (some ⟨b, 0, none⟩)))) := ⟨(((Chg.of_up (M := fun k => w.heap.size ≤ k) HUP0.out).trans hch (fun k hk => .inl (by rcases hk with h | h; omega; cases h))).trans hset (fun k hk => .inl (by omega))).below (Nat.le_refl _) (fun k hk => hk)⟩
 have HL2 : Az (CostL (ofKind T 14) L2) := ⟨by
  have : (ofKind T 14).take (ofKind T 14).length = ofKind T 14 := List.take_length
  rw [← this]
  exact hL2⟩
 have HB2 := Az.mk hb2
 have hl := HG.out.len
 clear hmm hmf HC HIN HSA HAP HUP0 HRET0 HMIX0 htr hH hI2 hL2 hSlt hSold hch e0 e1 e2 e3 e4 e5 hr1 hb2 hsz hset
 generalize w1.setCell ⟨w.heap.size + 1 + 1, 0, none⟩ (.pointer (some ⟨b, 0, none⟩)) = W2 at *
 go_loopg [14] T.length (fun k v14 w' => ∃ i : Nat, v14 = .int .i64 i ∧ Az (i + k = T.length) ∧ Az (Chg (fun q => q = w.heap.size + 1) W2 w') ∧ Az (MixMap (w.heap.size + 1) w' (w.heap.size + 1) (2 * i)))
 case atStart => exact ⟨0, rfl, ⟨Nat.zero_add _⟩, ⟨Chg.refl _ _⟩, HMX2⟩
 case round =>
  clear HMX2
  obtain ⟨i, rfl, HI, HC, HM⟩ := hrel
  have hi := HI.out
  have hbr : wr.heap[w.heap.size + 1 + 1]? = some (.cells #[.pointer (some ⟨b, 0, none⟩), .slice A2 L2.length c2, .map (some (w.heap.size + 1))] 54 (0, 0)) := by
   rw [HC.out.block _ (Array.getElem?_eq_some_iff.1 HB2.out).1 (by omega)]
   exact HB2.out
  have hrr : wr.heap[w.heap.size]? = some costO0 := by
   rw [HC.out.block _ (Array.getElem?_eq_some_iff.1 HR2.out).1 (by omega)]
   exact HR2.out
  have HBR := Az.mk hbr
  have HRR := Az.mk hrr
  cases gk with
  | zero =>
    have hlt : decide ((i : Int) < (T.length : Int)) = false := dFz (by omega)
    have hln : decide (i < T.length) = false := dFz (by omega)
    obtain ⟨c0, c1, c2', c3, c4, c5⟩ := costO_cells hbr
    obtain ⟨d0, d1, d2, d3, d4, d5⟩ := costO_cells hrr
    clear hi hbr hrr
    go_wp2
    obtain ⟨hz1, hz2⟩ := costRet_ok (.pointer (some ⟨b, 0, none⟩)) (.slice A2 L2.length c2) (.map (some (w.heap.size + 1))) HRR.out
    change bodyPost _ _ _ _ _ (costRet wr w.heap.size (.pointer (some ⟨b, 0, none⟩)) (.slice A2 L2.length c2) (.map (some (w.heap.size + 1))))
    generalize costRet wr w.heap.size (.pointer (some ⟨b, 0, none⟩)) (.slice A2 L2.length c2) (.map (some (w.heap.size + 1))) = wz at *
    refine bodyPost_ret (results_cell_row rfl _ _ w.heap.size _ _ _ _ rfl hz1 Tryz.underlying54 rfl (by kernel_rfl)) rfl ?_
    have hcz : Chg (fun q => q = w.heap.size + 1 ∨ q = w.heap.size) W2 wz := (HC.out.mono (fun k h => .inl h)).trans hz2 (fun k h => .inl (.inr h))
    refine ⟨b, w.heap.size + 1, A2, L2.length, c2, rfl, ⟨?_, ⟨L2, rfl, HL2.out, ?_⟩, ⟨2 * i, by have := HI.out; omega, ?_⟩⟩, ?_⟩
    ·exact (HTR2.out.2.2.chg hcz (fun k hk => .inl (by have := HTR2.out.2.1; rcases hk with h | h <;> omega))).mono (by have := HTR2.out.2.1; omega)
    ·exact own_chg HRW2.out.1 hcz (fun k hk h => by have := HRW2.out.2 k hk; rcases h with h | h <;> omega)
    ·exact HM.out.chg hz2 (fun k hk => .inl (by omega))
    ·exact ((Chg.of_up (M := fun k => w.heap.size ≤ k) HUP2.out).trans hcz (fun k hk => .inl (by rcases hk with h | h <;> omega))).below (Nat.le_refl _) (fun k hk => hk)
  | succ k =>
    have hlt : decide ((i : Int) < (T.length : Int)) = true := dTz (by omega)
    have hln : decide (i < T.length) = true := dTz (by omega)
    have p1 : 0 ≤ (i : Int) := by omega
    have p2 : (i : Int) < (T.length : Int) := by omega
    have hx : T[i]? = some T[i] := List.getElem?_eq_getElem (by omega)
    obtain ⟨x, hxx⟩ : ∃ x, T[i]'(by omega) = x := ⟨_, rfl⟩
    rw [hxx] at hx
    have HR : Az (Right x) := ⟨by rw [← hxx]; exact HG.out.right _ (List.getElem_mem _)⟩
    have HW : Az x.Wf := ⟨by rw [← hxx]; exact HG.out.wf _ (List.getElem_mem _)⟩
    have HQ : Az (2 * i + 1 < maxLen) := ⟨by unfold maxLen; omega⟩
    obtain ⟨ad, hAd, A', c', hrec, hto⟩ := HT.out i x hx
    subst hAd
    obtain ⟨g0, g1, g2, g3, g4, g5, g6, g7⟩ := (hrec.up HUP2.out)
    have hrec2 := recAt_chg (hrec.up HUP2.out) HC.out (by
     have := table_lt HT.out ad rfl (by omega)
     rw [add_block]
     omega)
    obtain ⟨g0, g1, g2, g3, g4, g5, g6, g7⟩ := hrec2
    have HB1 : Az (Up wr (wr.alloc (recO x A' c')).drew) := ⟨up_drew (up_alloc (up_refl _) _)⟩
    have HRB := Az.mk (recBox_new wr x A' c')
    obtain ⟨k0, k1, k2, k3, k4, k5, k6, k7⟩ := HRB.out
    have HS0 : Az (w.heap.size + 1 + 1 < wr.heap.size) := ⟨(Array.getElem?_eq_some_iff.1 hbr).1⟩
    clear hxx hrec hto hx hi hbr hrr
    by_cases hk15 : x.kind = 15
    ·have e15 : (x.kind == 15) = true := beq_iff_eq.mpr hk15
     have HWT : Az (x.weight ≤ 9218868437227405312) := ⟨by
      have hf := HR.out.fits
      unfold fitsB at hf
      simp [hk15, weightB] at hf
      omega⟩
     have HKY : Az (KeyOk Tryz.prog 181 (namesV (x.name, x.other)) ∧ KeyOk Tryz.prog 181 (namesV (x.other, x.name))) := ⟨key_names HW.out.name HW.out.other, key_names HW.out.other HW.out.name⟩
     clear hk15
     have hs0 : (wr.alloc (recO x A' c')).drew.cell? ⟨w.heap.size + 1 + 1, 2, none⟩ = some (.map (some (w.heap.size + 1))) ∧ (wr.alloc (recO x A' c')).drew.cell? ⟨wr.heap.size, 5, none⟩ = some (.string x.name) ∧ (wr.alloc (recO x A' c')).drew.cell? ⟨wr.heap.size, 6, none⟩ = some (.string x.other) ∧ (wr.alloc (recO x A' c')).drew.cell? ⟨wr.heap.size, 7, none⟩ = some (.float .f64 x.weight) := ⟨(costO_cells (up_block HB1.out HBR.out)).2.2.1, k5, k6, k7⟩
     go_wp2
     go_region_held3 (fun w' => w'.cell? ⟨w.heap.size + 1 + 1, 2, none⟩ = some (.map (some (w.heap.size + 1))) ∧ w'.cell? ⟨wr.heap.size, 5, none⟩ = some (.string x.name) ∧ w'.cell? ⟨wr.heap.size, 6, none⟩ = some (.string x.other) ∧ w'.cell? ⟨wr.heap.size, 7, none⟩ = some (.float .f64 x.weight)) (first | exact hs0 | exact hs4) (first | (go_at_call 164; (refine (Narrow_calls x.weight HWT.out _).mono ?_); rintro e w3 ⟨r4, q4, rfl, rfl, hok⟩; obtain ⟨G, hG⟩ := HM.out; have hup4 : Up wr ((wr.alloc (recO x A' c')).drewN (1 + q4)) := up_drewN (up_alloc (up_refl _) _) _; obtain ⟨w4, hr4, hm4, hg4⟩ := (hG.up hup4).store namesV_inj 52 _ keyed_names Tryz.underlying52 (by have := HQ.out; omega) (x.name, x.other) HKY.out.1 (.float .f64 r4); have hr4 : (Instr.mapUpdate 52 (.map (some (w.heap.size + 1))) (.agg #[.string x.name, .string x.other]) (.float .f64 r4)).run Tryz.prog ((wr.alloc (recO x A' c')).drewN (1 + q4)) = .ok () w4 := hr4; have hbk4 := grown_block hg4 (up_block hup4 HBR.out) (by simp); have hrb4 := grown_rec hg4 (RecBox.keep HRB.out (up_drewN (up_refl _) (1 + q4))) (by have := HS0.out; simp; omega); have hs4 := And.intro (costO_cells hbk4).2.2.1 (And.intro hrb4.2.2.2.2.2.1 (And.intro hrb4.2.2.2.2.2.2.1 hrb4.2.2.2.2.2.2.2))))
     have HC4 : Az (Chg (fun q => q = w.heap.size + 1) W2 w4) := ⟨(HC.out.trans (Chg.of_up (M := fun _ => False) hup4) (fun _ h => h.elim)).trans (Chg.of_grown (M := fun q => q = w.heap.size + 1) hg4 (fun k e => by cases e; rfl)) (fun _ h => .inl h)⟩
     have HM4 : Az (MixMap (w.heap.size + 1) w4 (w.heap.size + 1) (2 * i + 1)) := ⟨_, hm4⟩
     have HBK4 := Az.mk hbk4
     have HRB4 := Az.mk hrb4
     clear hs0 hr4 hm4 hg4 hup4 hbk4 hrb4 hok hG g0 g1 g2 g3 g4 g5 g6 g7 k0 k1 k2 k3 k4 k5 k6 k7
     have hs5 : w4.drew.cell? ⟨w.heap.size + 1 + 1, 2, none⟩ = some (.map (some (w.heap.size + 1))) ∧ w4.drew.cell? ⟨wr.heap.size, 5, none⟩ = some (.string x.name) ∧ w4.drew.cell? ⟨wr.heap.size, 6, none⟩ = some (.string x.other) ∧ w4.drew.cell? ⟨wr.heap.size, 7, none⟩ = some (.float .f64 x.weight) := hs4
     go_wp2
     go_region_held3 (fun w' => w'.cell? ⟨w.heap.size + 1 + 1, 2, none⟩ = some (.map (some (w.heap.size + 1))) ∧ w'.cell? ⟨wr.heap.size, 5, none⟩ = some (.string x.name) ∧ w'.cell? ⟨wr.heap.size, 6, none⟩ = some (.string x.other) ∧ w'.cell? ⟨wr.heap.size, 7, none⟩ = some (.float .f64 x.weight)) (first | exact hs5 | exact hs6) (first | (go_at_call 164; (refine (Narrow_calls x.weight HWT.out _).mono ?_); rintro e w3 ⟨r6, q6, rfl, rfl, hok⟩; obtain ⟨G, hG⟩ := HM4.out; have hup6 : Up w4 (w4.drewN (1 + q6)) := up_drewN (up_refl _) _; obtain ⟨w6, hr6, hm6, hg6⟩ := (hG.up hup6).store namesV_inj 52 _ keyed_names Tryz.underlying52 (by have := HQ.out; omega) (x.other, x.name) HKY.out.2 (.float .f64 r6); have hr6 : (Instr.mapUpdate 52 (.map (some (w.heap.size + 1))) (.agg #[.string x.other, .string x.name]) (.float .f64 r6)).run Tryz.prog (w4.drewN (1 + q6)) = .ok () w6 := hr6; have hbk6 := grown_block hg6 (up_block hup6 HBK4.out) (by simp); have hrb6 := grown_rec hg6 (RecBox.keep HRB4.out (up_drewN (up_refl _) (1 + q6))) (by have := HS0.out; simp; omega); have hs6 := And.intro (costO_cells hbk6).2.2.1 (And.intro hrb6.2.2.2.2.2.1 (And.intro hrb6.2.2.2.2.2.2.1 hrb6.2.2.2.2.2.2.2))))
     have HC6 : Az (Chg (fun q => q = w.heap.size + 1) W2 w6) := ⟨(HC4.out.trans (Chg.of_up (M := fun _ => False) hup6) (fun _ h => h.elim)).trans (Chg.of_grown (M := fun q => q = w.heap.size + 1) hg6 (fun k e => by cases e; rfl)) (fun _ h => .inl h)⟩
     have HM6 : Az (MixMap (w.heap.size + 1) w6 (w.heap.size + 1) (2 * (i + 1))) := ⟨_, hm6.mono (by omega)⟩
     clear hs4 hs5 hs6 hr6 hm6 hg6 hup6 hbk6 hrb6 hok hG
     go_wp2
     go_roundg k
     case measure => have := HI.out; omega
     case rel => exact ⟨i + 1, rfl, ⟨by have := HI.out; omega⟩, HC6, HM6⟩
    ·have e15 : (x.kind == 15) = false := bqf hk15
     clear hk15
     go_wp2
     go_roundg k
     case measure => have := HI.out; omega
     case rel => exact ⟨i + 1, rfl, ⟨by have := HI.out; omega⟩, ⟨HC.out.trans (Chg.of_up (M := fun _ => False) (up_alloc (up_refl _) _)) (fun _ h => h.elim)⟩, ⟨by obtain ⟨G, hG⟩ := HM.out; exact ⟨G, (hG.up (up_alloc (up_refl _) _)).mono (by omega)⟩⟩⟩
end Go.Proofs.YtnohcnneflogjaaGreat.M
