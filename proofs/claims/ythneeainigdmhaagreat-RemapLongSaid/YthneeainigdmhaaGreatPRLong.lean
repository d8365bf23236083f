/- RemapLong, walked. (printed by mkrlong.py) -/
import Derived.Test.YthneeainigdmhaaGreatPRemap
import Derived.Test.YthneeainigdmhaaGreatPOwnPut
import Derived.Laws.BitsLemmas
import Derived.Laws.OwnMore
set_option linter.unusedVariables false
set_option linter.unusedSimpArgs false
namespace Go.Proofs.YthneeainigdmhaaGreat.M
open Go.RowKit
set_option maxHeartbeats 16000000
set_option maxRecDepth 100000

theorem wpList_append_tab2 (w wo : World) {ops : Array Oper} {rest : List Oper} {o : Oper} {a : Act} {Q : Exit → Act → World → Prop} (hgd : o.guard = none) (s x : Operand)
    (ho : o.op = .call { callee := .builtin .append, args := #[s, x], argTypes := #[22, 22] }) (H : Nat) (A : Option Addr) (n c : Nat) (T : List Rec) (hs : a.eval s = .slice A n c) (hn : T.length = n) (hT : OwnTab H wo A c T) (hu : Up wo w)
    (ad : Addr) (M : List RecP) (m c' : Nat) (hx : a.eval x = .slice (some ad) m c') (hm : M.length = m) (hpos : 0 < m) (hnews : ∀ (j : Nat) (u : Value), (recsCells M)[j]? = some u → w.cell? (ad.add j) = some u)
    (hM : ∀ p ∈ M, Ints .i32 w p.2.1 p.1.to ∧ ∀ a, p.2.1 = some a → a.block < w.heap.size ∧ (wo.heap.size ≤ a.block ∨ a.block < H)) (hl : n + m ≤ 4096) (hbase : H ≤ wo.heap.size)
    (hK : ∀ g cap w', OwnTab H w' (some ⟨g, 0, none⟩) cap (T ++ M.map (·.1)) → Chg (fun k => H ≤ k) w w' → wpList Tryz.prog ops Q rest (a.put o.dst (.slice (some ⟨g, 0, none⟩) (n + m) cap)) w') : wpList Tryz.prog ops Q (o :: rest) a w := by
  subst hn
  subst hm
  obtain ⟨L, hL1, hL2, hL3⟩ := hT
  obtain ⟨ir, zr, hir, hzr, hsr, hbr, hzr2⟩ := rec_info
  have hone : ∀ u ∈ recsCells M, u.oneCell' = true := fun u hu => by
    obtain ⟨p, _, hp⟩ := List.mem_flatMap.1 hu
    exact pcells_one p u hp
  refine wpList_append_lies w hgd s x 22 ho H 92 ir zr 8 96 Tryz.underlying22 hir hzr hsr hbr hzr2 (by decide) (.slice A T.length c) T.length (recsCells L) hs (own_up hL2 hu) ad M.length c' (recsCells M) hx (recsCells_length M) hnews hone hpos (by unfold maxLen; omega) (by omega) (Nat.le_trans hbase hu.size) _ rfl ?_
  intro g cap w' hown hgrow hat hlt
  have hlen : (T ++ M.map (·.1)).length = T.length + M.length := by rw [List.length_append, List.length_map]
  refine hK g cap w' ⟨L ++ M, by rw [List.map_append, hL1], ?_, fun p hp => ?_⟩ (Chg.of_grown (M := fun k => H ≤ k) hgrow (fun k hk => (hL2.lt k hk).1))
  · rw [hlen]
    simpa [recsCells] using hown
  · have key : Ints .i32 w p.2.1 p.1.to ∧ ∀ a, p.2.1 = some a → a.block < w.heap.size ∧ (Value.slice A T.length c).ownBlock ≠ some a.block := by
      rcases List.mem_append.1 hp with hp | hp
      · exact ⟨(hL3 p hp).1.up hu, fun a ha => ⟨Nat.lt_of_lt_of_le ((hL3 p hp).2 a ha).1 hu.size, ((hL3 p hp).2 a ha).2⟩⟩
      · refine ⟨(hM p hp).1, fun a ha => ⟨((hM p hp).2 a ha).1, fun e => ?_⟩⟩
        have h1 := hL2.lt _ e
        have h2 := ((hM p hp).2 a ha).2
        omega
    refine ⟨ints_beside key.1 hgrow (fun a ha => (key.2 a ha).2), fun a ha => ⟨Nat.lt_of_lt_of_le (key.2 a ha).1 hgrow.size, fun e => ?_⟩⟩
    have e' : g = a.block := by injection e
    rcases hat with h3 | h3
    · exact (key.2 a ha).2 (by rw [h3, e'])
    · have := (key.2 a ha).1
      omega
theorem i64_and7 (n : Int) : bits .and .i64 n 7 = n % 8 := by
  have h127 : (BitVec.ofInt 64 7).toNat = 2 ^ 3 - 1 := by decide
  have key : (BitVec.ofInt 64 n &&& BitVec.ofInt 64 7).toNat = (n % ((2 ^ 64 : Nat) : Int)).toNat % 2 ^ 3 := by
    rw [BitVec.toNat_and, BitVec.toNat_ofInt, h127, Nat.and_two_pow_sub_one_eq_mod]
  show IntKind.i64.wrap ((BitVec.ofInt 64 n &&& BitVec.ofInt 64 7).toNat : Nat) = n % 8
  rw [key, IntKind.wrap_i64]
  omega
theorem i64_and3 (n : Int) : bits .and .i64 n 3 = n % 4 := by
  have h127 : (BitVec.ofInt 64 3).toNat = 2 ^ 2 - 1 := by decide
  have key : (BitVec.ofInt 64 n &&& BitVec.ofInt 64 3).toNat = (n % ((2 ^ 64 : Nat) : Int)).toNat % 2 ^ 2 := by
    rw [BitVec.toNat_and, BitVec.toNat_ofInt, h127, Nat.and_two_pow_sub_one_eq_mod]
  show IntKind.i64.wrap ((BitVec.ofInt 64 n &&& BitVec.ofInt 64 3).toNat : Nat) = n % 4
  rw [key, IntKind.wrap_i64]
  omega
theorem build_recs1 (x : Rec) (A : Option Addr) (a : Nat) (w : World) : (Instr.buildSlice 22 1 #[(0, recV x A a)]).run Tryz.prog w = .ok (.slice (some ⟨w.heap.size, 0, none⟩) 1 1) (w.alloc (.cells (recsCells [(x, A, a)]).toArray 92)) := by kernel_rfl
/-- A record that maps 2460 to so many. -/
def recK (k : Nat) : Rec := sayR 3 9312 9312 0 (List.replicate k 97) 0
def longT (k : Nat) : List Rec := littleT ++ [recK k]
theorem longT_right (k : Nat) (h1 : 1 ≤ k) (h2 : k ≤ 8) : ∀ x ∈ longT k, Right x := by
  intro x hx
  rcases List.mem_append.1 hx with hx | hx
  · exact littleT_right x hx
  rw [List.mem_singleton.1 hx]
  unfold recK
  rcases (by omega : k = 1 ∨ k = 2 ∨ k = 3 ∨ k = 4 ∨ k = 5 ∨ k = 6 ∨ k = 7 ∨ k = 8) with rfl | rfl | rfl | rfl | rfl | rfl | rfl | rfl <;> (unfold Right; decide +kernel)
theorem longT_wf (k : Nat) (h2 : k ≤ 8) : ∀ x ∈ longT k, x.Wf := by
  intro x hx
  rcases List.mem_append.1 hx with hx | hx
  · exact littleT_wf x hx
  rw [List.mem_singleton.1 hx]
  unfold recK
  rcases (by omega : k = 0 ∨ k = 1 ∨ k = 2 ∨ k = 3 ∨ k = 4 ∨ k = 5 ∨ k = 6 ∨ k = 7 ∨ k = 8) with rfl | rfl | rfl | rfl | rfl | rfl | rfl | rfl | rfl <;> exact ⟨by decide, by decide, by decide, by decide, by decide, by decide, by decide, by decide, by decide⟩
theorem longT_fine (k : Nat) (h1 : 1 ≤ k) (h2 : k ≤ 8) : (checkE (longT k)).2 = 0 := by
  have hr := longT_right k h1 h2
  rcases (by omega : k = 1 ∨ k = 2 ∨ k = 3 ∨ k = 4 ∨ k = 5 ∨ k = 6 ∨ k = 7 ∨ k = 8) with rfl | rfl | rfl | rfl | rfl | rfl | rfl | rfl <;> exact fine_said (by decide +kernel) hr (by decide +kernel) (by decide +kernel) (by decide +kernel)
theorem longT_one (k : Nat) (h1 : 1 ≤ k) (h2 : k ≤ 8) : oneF (longT k) 0 9312 = List.replicate k 97 := by
  rcases (by omega : k = 1 ∨ k = 2 ∨ k = 3 ∨ k = 4 ∨ k = 5 ∨ k = 6 ∨ k = 7 ∨ k = 8) with rfl | rfl | rfl | rfl | rfl | rfl | rfl | rfl <;> decide +kernel
theorem maps_rep (T : List Rec) (fl c : Int) (L : Nat) : (mapsF T fl (List.replicate L c)).length = L * (oneF T fl c).length := by
  unfold mapsF
  induction L with
  | zero => simp
  | succ n ih =>
    rw [List.replicate_succ, List.flatMap_cons, List.length_append, ih, Nat.succ_mul]
    omega
theorem rep_set (i k : Nat) (a b : Int) : (List.replicate i a ++ List.replicate (k + 1) b).set i a = List.replicate (i + 1) a ++ List.replicate k b := by
  induction i with
  | zero => simp [List.replicate_succ]
  | succ n ih => rw [List.replicate_succ, List.cons_append, List.set_cons_succ, ih, List.replicate_succ (n := n + 1), List.cons_append]
theorem lt_up {N : Nat} (h : 65536 < N) : (65536 : Int) < (N : Int) := by omega
theorem lt_no {N : Nat} (h : ¬ 65536 < N) : ¬ ((65536 : Int) < (N : Int)) := by omega
theorem i32Zero : (Tryz.prog.info? 21).map (fun i => (i.zero, i.size, i.bytes)) = some (some (.int .i32 0), 1, 4) := by kernel_rfl
attribute [-go_sem] Instr.buildSlice
theorem RemapLong_calls (n k : Int) (w : World) : Calls Tryz.prog 14 #[.int .i64 n, .int .i64 k] w fun e w' => e = .returned (.bool true) ∧ Up w w' := by
  have hu96 := Tryz.underlying92
  obtain ⟨m0, hm0⟩ : ∃ m0 : Nat, bits .and .i64 k 7 = (m0 : Int) := ⟨(k % 8).toNat, by rw [i64_and7]; omega⟩
  have hm7 : m0 ≤ 7 := by rw [i64_and7] at hm0; omega
  have hmw : wrap64 ((m0 : Int) + 1) = (m0 : Int) + 1 := by unfold wrap64; omega
  obtain ⟨r0, hr0⟩ : ∃ r0 : Nat, bits .and .i64 n 3 = (r0 : Int) := ⟨(n % 4).toNat, by rw [i64_and3]; omega⟩
  have hr3 : r0 ≤ 3 := by rw [i64_and3] at hr0; omega
  obtain ⟨Q, hQ⟩ : ∃ Q : Nat, (65536 : Int) / ((m0 : Int) + 1) = (Q : Int) := Int.eq_ofNat_of_zero_le (Int.ediv_nonneg (by decide) (by omega))
  have hQ2 : 8192 ≤ Q ∧ Q ≤ 65536 := by
    rcases (by omega : m0 = 0 ∨ m0 = 1 ∨ m0 = 2 ∨ m0 = 3 ∨ m0 = 4 ∨ m0 = 5 ∨ m0 = 6 ∨ m0 = 7) with rfl | rfl | rfl | rfl | rfl | rfl | rfl | rfl <;> (simp at hQ; omega)
  obtain ⟨L, hL⟩ : ∃ L : Nat, (Q : Int) + (r0 : Int) - 1 = (L : Int) := ⟨Q + r0 - 1, by omega⟩
  have HLL : Aside0 (8191 ≤ L ∧ L ≤ 65538) := ⟨by omega⟩
  have HW1 : Aside0 (wrap64 ((Q : Int) + (r0 : Int)) = (Q : Int) + (r0 : Int)) := ⟨by unfold wrap64; omega⟩
  have HW2 : Aside0 (wrap64 ((Q : Int) + (r0 : Int) - 1) = (L : Int)) := ⟨by rw [hL]; unfold wrap64; omega⟩
  obtain ⟨iz, hiz, hz0, hz1, hz2⟩ := info_parts i32Zero
  have HLB : Aside0 (iz.bytes * L ≤ 281474976710656) := ⟨by rw [hz2]; omega⟩
  have HLM : Aside0 (L ≤ maxLen) := ⟨by unfold maxLen; omega⟩
  clear hL
  have HM7 := Aside0.mk hm7
  have HR3 := Aside0.mk hr3
  have HQ2 := Aside0.mk hQ2
  have HQ := Aside0.mk hQ
  have HR0 := Aside0.mk hr0
  obtain ⟨ie, ze, hie, hze, hsi, hby, hzc⟩ := i32_info
  clear hQ hQ2 hr0 hr3
  go_enter Tryz.func14, Tryz.ntmps14
  go_wp2
  go_loopg [5, 6] (m0 + 1) (fun j v5 v6 w' => ∃ (i : Nat) (q : List Int) (A5 : Option Addr) (c5 : Nat), v5 = .slice A5 q.length c5 ∧ v6 = .int .i64 i ∧ Aside0 (i + j = m0 + 1 ∧ q = List.replicate i 97) ∧ Aside0 (w'.ownsRow w.heap.size 21 1 (.slice A5 q.length c5) q.length (q.map (Value.int .i32))) ∧ Aside0 (Up w w'))
  case atStart => exact ⟨0, [], none, 0, rfl, rfl, ⟨Nat.zero_add _, rfl⟩, ⟨World.ownsRow_nil _ _ _ _⟩, ⟨up_refl _⟩⟩
  case round =>
    obtain ⟨i, q, A5, c5, rfl, rfl, HNI, HO, HB⟩ := hrel
    cases gk with
    | succ k2 =>
      have hlt : decide ((i : Int) < (m0 : Int) + 1) = true := decide_eq_true (by have := HNI.out.1; omega)
      have hlt1 : (i : Int) < (m0 : Int) + 1 := by have := HNI.out.1; omega
      have hlt2 : i < m0 + 1 := by have := HNI.out.1; omega
      have HLEN : Aside0 (q.length + 1 ≤ maxLen ∧ (q.length + 1) * 4 ≤ 140737488355328) := ⟨by rw [HNI.out.2, List.length_replicate]; unfold maxLen; omega⟩
      go_wp2_with (first | (at_builtin; refine (wpList_append_row _ rfl _ _ 23 rfl w.heap.size 21 ie ze 1 4 Tryz.underlying23 hie hze hsi hby hzc (by decide) (.slice A5 q.length c5) q.length (q.map (Value.int .i32)) rfl (HO.out.alloc _) (some ⟨wr.heap.size, 0, none⟩) 1 1 [.int .i32 97] rfl rfl (cells_one _ _ _) (ints_one .i32 [97]) ?ha7 ?hb7 ?hc7 ?_); (case ha7 => exact HLEN.out.1); (case hb7 => exact HLEN.out.2); (case hc7 => exact Nat.le_trans HB.out.size (up_alloc (up_refl _) _).size); intro v7 w7 hown7 hgrow7 hat7; have HO7 : Aside0 (w7.ownsRow w.heap.size 21 1 v7 (q ++ [97]).length ((q ++ [97]).map (Value.int .i32))) := ⟨by rw [List.length_append, List.map_append]; exact hown7⟩; obtain ⟨A7, c7, hv7⟩ := own_any HO7.out; subst hv7; have HB7 := Aside0.mk ((up_alloc HB.out (.cells #[.int .i32 97] 21)).grown hgrow7 (up_alloc HB.out (.cells #[.int .i32 97] 21)).size (fun k hk => (HO.out.lt k hk).1)); clear hown7 hgrow7 hat7) | (simp only [build_i32]))
      go_roundg k2
      case measure => have := HNI.out.1; omega
      case rel => exact ⟨i + 1, q ++ [97], A7, c7, by simp, rfl, ⟨by have := HNI.out.1; omega, by rw [HNI.out.2, List.replicate_succ']⟩, HO7, HB7⟩
    | zero =>
      have hi : i = m0 + 1 := by have := HNI.out.1; omega
      have hq : q = List.replicate (m0 + 1) 97 := by rw [HNI.out.2, hi]
      have hql : q.length = m0 + 1 := by rw [hq, List.length_replicate]
      have hlt : decide ((i : Int) < (m0 : Int) + 1) = false := decide_eq_false (by omega)
      have hlt1 : ¬ ((i : Int) < (m0 : Int) + 1) := by omega
      obtain ⟨wq, hwq⟩ : ∃ wq, wq = wr := ⟨_, rfl⟩
      subst hwq
      obtain ⟨R, hR⟩ : ∃ R, R = [(recK (m0 + 1), A5, c5)] := ⟨_, rfl⟩
      have hb1 : ∀ W, (Instr.buildSlice 22 1 #[(0, .agg #[.int .i64 3, .int .i64 9312, .int .i64 9312, .int .i64 0, .slice A5 q.length c5, .string ⟨#[]⟩, .string ⟨#[]⟩, .float .f64 0])]).run Tryz.prog W = .ok (.slice (some ⟨W.heap.size, 0, none⟩) 1 1) (W.alloc (.cells (recsCells R).toArray 92)) := fun W => by
        rw [hR, ← build_recs1 (recK (m0 + 1)) A5 c5 W, hq]
        rfl
      have HIQ : Aside0 (Ints .i32 wq A5 q) := ⟨by obtain ⟨_, _, he, h, _⟩ := own_ints HO.out; cases he; exact h⟩
      have HAQ : Aside0 (∀ a, A5 = some a → a.block < wq.heap.size) := ⟨fun a ha => (own_lt_some HO.out ha).2⟩
      have HNW : Aside0 (∀ w2 : World, Up wq w2 → ∀ p ∈ R, Ints .i32 (w2.alloc (.cells (recsCells R).toArray 92)) p.2.1 p.1.to ∧ ∀ a, p.2.1 = some a → a.block < (w2.alloc (.cells (recsCells R).toArray 92)).heap.size ∧ (w2.heap.size ≤ a.block ∨ a.block < wq.heap.size)) := ⟨fun w2 hu p hp => by
        rw [hR] at hp
        rw [List.mem_singleton.1 hp]
        refine ⟨?_, fun a ha => ⟨?_, .inr (HAQ.out a ha)⟩⟩
        · have := HIQ.out.up (up_alloc hu (.cells (recsCells R).toArray 92))
          rw [hq] at this
          exact this
        · have h1 := HAQ.out a ha
          have h2 := (up_alloc hu (.cells (recsCells R).toArray 92)).size
          omega⟩
      have HRL : Aside0 (R.length = 1 ∧ R.map (·.1) = [recK (m0 + 1)]) := ⟨by rw [hR]; exact ⟨rfl, rfl⟩⟩
      have HLW := Aside0.mk (longT_wf (m0 + 1) (by omega))
      have HLF := Aside0.mk (longT_fine (m0 + 1) (by omega) (by omega))
      have HLG : Aside0 (Good (longT (m0 + 1))) := ⟨(fine_of HLW.out HLF.out).toGood⟩
      have HTL : Aside0 ((longT (m0 + 1)).length = 11) := ⟨rfl⟩
      have hQ := HQ.out
      have hr0 := HR0.out
      have hw1 := HW1.out
      have hw2 := HW2.out
      clear hR hi hq hql hm7
      go_wp2_with (first | (at_make; refine (wpList_make_full _ rfl _ _ 23 rfl w5.heap.size 21 iz _ 1 Tryz.underlying23 hiz hz0 hz1 .i64 .i64 _ _ L rfl rfl HW2.out HW2.out ?hb ?hc ?hd ?_); (case hb => exact HLB.out); (case hc => exact HLM.out); (case hd => exact Nat.le_refl _); intro w6 hown6 hgrow6; have HO6 := Aside0.mk hown6; have HG6 := Aside0.mk hgrow6; clear hown6 hgrow6) | (go_at_call 20; (with_reducible refine (Made_fine _ cap4 (longT (m0 + 1)) 11 _ HT4.out.table HLW.out HT4.out.len HTL.out (by decide) HLF.out).mono ?_); rintro e w5 ⟨bd, D, A2, n2, rfl, hD, _, hup5⟩; have HD := Aside0.mk hD; have HU5 := Aside0.mk hup5; clear hD hup5) | (at_builtin; refine (wpList_append_tab2 _ w2 rfl _ _ rfl wq.heap.size A1 10 c1 littleT rfl rfl HT2.out (up_alloc (up_refl _) _) ⟨w2.heap.size, 0, none⟩ R 1 1 rfl HRL.out.1 (by decide) (fun j u hu => cells_new w2 _ _ j u (by simpa using hu)) (HNW.out w2 HU2.out) (by decide) HU2.out.size ?_); intro g4 cap4 w4 hT4 hch4; have HT4 : Aside0 (OwnTab wq.heap.size w4 (some ⟨g4, 0, none⟩) cap4 (longT (m0 + 1))) := ⟨by rw [HRL.out.2] at hT4; exact hT4⟩; have HCH4 := Aside0.mk hch4; have HUL : Aside0 (Up w w4) := ⟨(((Chg.of_up (M := fun k => w.heap.size ≤ k) (up_trans HB.out HU2.out)).trans (Chg.of_up (M := fun _ => False) (up_alloc (up_refl w2) (.cells (recsCells R).toArray 92))) (fun _ h => h.elim)).trans hch4 (fun k h => .inl (Nat.le_trans HB.out.size h))).below (Nat.le_refl _) (fun k h => h)⟩; clear hT4 hch4 hb1) | (go_at_call 70; (with_reducible refine (Little_calls _).mono ?_); rintro e w2 ⟨A1, c1, rfl, hT2, hup2⟩; have HT2 := Aside0.mk hT2; have HU2 := Aside0.mk hup2; clear hT2 hup2))
      have HO6z : Aside0 (w6.ownsRow w5.heap.size 21 1 (.slice (some ⟨w5.heap.size, 0, none⟩) L L) L ((List.replicate 0 (9312 : Int) ++ List.replicate (L - 0) (0 : Int)).map (Value.int .i32))) := ⟨by
        have h : w6.ownsRow w5.heap.size 21 1 (.slice (some ⟨w5.heap.size, 0, none⟩) L L) L (madeCells #[.int .i32 0] (L * 1)).toList := HO6.out
        rw [toList_madeCells_one, Nat.mul_one] at h
        simpa using h⟩
      have HU6 : Aside0 (Up w5 w6) := ⟨Below.grown (up_refl _) HG6.out (Nat.le_refl _) (fun k hk => by cases hk)⟩
      have hL8 := HLL.out
      clear hQ hr0 hw1 hw2 hlt hlt1
      go_loopg [12] L (fun j v12 w' => ∃ i2 : Nat, v12 = .int .i64 i2 ∧ Aside0 (i2 + j = L) ∧ Aside0 (w'.ownsRow w5.heap.size 21 1 (.slice (some ⟨w5.heap.size, 0, none⟩) L L) L ((List.replicate i2 (9312 : Int) ++ List.replicate (L - i2) (0 : Int)).map (Value.int .i32))) ∧ Aside0 (Up w5 w'))
      case atStart => exact ⟨0, rfl, ⟨Nat.zero_add _⟩, HO6z, HU6⟩
      case round =>
        obtain ⟨i2, rfl, HN2, HOQ, HB2⟩ := hrel
        cases gk with
        | succ k2 =>
          have hlt : decide ((i2 : Int) < (L : Int)) = true := decide_eq_true (by have := HN2.out; omega)
          have hlt1 : i2 < L := by have := HN2.out; omega
          have q7 : 0 ≤ (i2 : Int) := by omega
          have q9 : (i2 : Int) < (L : Int) := by omega
          obtain ⟨y1, y2⟩ := own_at HOQ.out hlt1
          go_wp2
          go_roundg k2
          case measure => have := HN2.out; omega
          case rel =>
            refine ⟨i2 + 1, rfl, ⟨by have := HN2.out; omega⟩, ⟨?_⟩, ⟨HB2.out.setCell (p := ⟨w5.heap.size, i2, none⟩) (Nat.le_refl _) _⟩⟩
            have := own_put HOQ.out i2 9312
            rwa [show L - i2 = k2 + 1 by have := HN2.out; omega, rep_set, show k2 = L - (i2 + 1) by have := HN2.out; omega] at this
        | zero =>
          have hi2 : i2 = L := by have := HN2.out; omega
          have hlt : decide ((i2 : Int) < (L : Int)) = false := decide_eq_false (by omega)
          have hlt1 : ¬ (i2 < L) := by omega
          obtain ⟨X, hX⟩ : ∃ X, X = List.replicate L (9312 : Int) := ⟨_, rfl⟩
          have HXL : Aside0 (X.length = L) := ⟨by rw [hX, List.length_replicate]⟩
          have HIX : Aside0 (Ints .i32 wr (some ⟨w5.heap.size, 0, none⟩) X) := ⟨by
            have h := HOQ.out
            rw [hi2, Nat.sub_self, List.replicate_zero, List.append_nil, ← hX] at h
            have h2 : wr.ownsRow w5.heap.size 21 1 (.slice (some ⟨w5.heap.size, 0, none⟩) X.length L) X.length (X.map (Value.int .i32)) := by rw [HXL.out]; exact h
            obtain ⟨_, _, he, h3, _⟩ := own_ints h2
            cases he
            exact h3⟩
          have HWX : Aside0 (∀ z ∈ X, (Lit.int .i32 z).wf = true) := ⟨fun z hz => by
            rw [hX] at hz
            rw [(List.mem_replicate.1 hz).2]
            decide⟩
          have HLX : Aside0 (L ≤ 100000) := ⟨by omega⟩
          obtain ⟨r, hr⟩ : ∃ r, mapsF (longT (m0 + 1)) 0 X = r := ⟨_, rfl⟩
          have HR := Aside0.mk hr
          obtain ⟨N, hN⟩ : ∃ N : Nat, L * (m0 + 1) = N := ⟨_, rfl⟩
          have hrN : r.length = N := by
            have h7 := HM7.out
            rw [← hr, hX, maps_rep, longT_one (m0 + 1) (by omega) (by omega), List.length_replicate, hN]
          have hNi : (L : Int) * ((m0 : Int) + 1) = (N : Int) := by rw [← hN]; simp
          have hNb : N ≤ 65538 * 8 := by rw [← hN]; exact Nat.mul_le_mul (by omega) (by have := HM7.out; omega)
          have hNw : wrap64 (N : Int) = (N : Int) := by unfold wrap64; omega
          have hNz : wrap64 ((L : Int) * ((m0 : Int) + 1)) = (N : Int) := by rw [hNi]; exact hNw
          have HRN := Aside0.mk hrN
          have HBX := Aside0.mk (up_trans HU5.out HB2.out)
          clear hX hr hN hi2 hNb hL8 hmw hNi hNw
          by_cases hl : 65536 < N
          · have HLO : Aside0 (65536 < (mapsF (longT (m0 + 1)) 0 X).length) := ⟨by rw [HR.out, HRN.out]; exact hl⟩
            clear hrN
            go_wp2_with (first | (go_at_call 63; (with_reducible refine (Map_long (HD.out.up HB2.out) HLG.out _ L X L HXL.out 0 HIX.out HLX.out HWX.out HLO.out).mono ?_); rintro e w8 ⟨rfl, hup8⟩; have HU8 := Aside0.mk hup8; clear hup8) | (go_at_call 65; (with_reducible refine (Settled_long (HD.out.up (up_trans HB2.out HU8.out)) HLG.out _ L X L HXL.out 0 (HIX.out.up HU8.out) HLX.out HWX.out HLO.out).mono ?_); rintro e w9 ⟨rfl, hup9⟩; have HU9 := Aside0.mk (up_trans HB2.out (up_trans HU8.out hup9)); clear hup9))
            go_ret
            exact ⟨rfl, up_trans HUL.out (up_trans HU5.out HU9.out)⟩
          · have HLO : Aside0 (r.length ≤ 65536) := ⟨by rw [HRN.out]; exact Nat.le_of_not_lt hl⟩
            clear hrN
            go_wp2_with (first | (go_at_call 63; (with_reducible refine (Map_ok (HD.out.up HB2.out) HLG.out _ L X L HXL.out 0 HIX.out HLX.out HWX.out r HR.out HLO.out).mono ?_); rintro e w8 ⟨v8, rfl, hown8, hup8⟩; obtain ⟨A8, c8, hv8⟩ := own_any hown8; rw [HRN.out] at hv8; subst hv8; have HU8 := Aside0.mk (up_trans HB2.out hup8); clear hown8 hup8))
            go_ret
            exact ⟨rfl, up_trans HUL.out (up_trans HU5.out HU8.out)⟩
end Go.Proofs.YthneeainigdmhaaGreat.M
