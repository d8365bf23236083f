/- A trie asked, walked. -/
import Derived.Test.YtnohcnneflogjaaGreatK12
import Derived.Test.YtnohcnneflogjaaGreatK09
import Derived.BigQuiet
import Derived.Test.YtnohcnneflogjaaGreatK34
set_option maxHeartbeats 8000000
set_option maxRecDepth 100000
set_option linter.unusedVariables false
set_option linter.unusedSimpArgs false
namespace Go.Proofs.YtnohcnneflogjaaGreat.M
open Go.RowKit
theorem add_zero_none' (g n : Nat) : (⟨g, 0, none⟩ : Addr).add n = ⟨g, n, none⟩ := by unfold Addr.add; split <;> simp_all
theorem blocksC_get : ∀ (B : List (List Int)) (hB : ∀ l ∈ B, l.length = 64) (q j : Nat) (l : List Int), B[q]? = some l → j < 64 → (blocksC B)[q * 64 + j]? = (u16s l)[j]?
 | [], _, q, j, l, h, _ => by simp at h
 | a :: B, hB, 0, j, l, h, hj => by
   cases h
   show (u16s a ++ blocksC B)[0 * 64 + j]? = _
   have : (u16s a).length = 64 := by simp [u16s, hB a (by simp)]
   rw [List.getElem?_append_left (by omega), Nat.zero_mul, Nat.zero_add]
 | a :: B, hB, q + 1, j, l, h, hj => by
   show (u16s a ++ blocksC B)[(q + 1) * 64 + j]? = _
   have : (u16s a).length = 64 := by simp [u16s, hB a (by simp)]
   rw [List.getElem?_append_right (by omega), this, show (q + 1) * 64 + j - 64 = q * 64 + j by omega]
   exact blocksC_get B (fun l hl => hB l (by simp [hl])) q j l h hj
theorem TrieFrom.read {H : Nat} {w : World} {b : Nat} {F : Int → Int} (h : TrieFrom H w b F) (k j : Nat) (hk : k < 17408) (hj : j < 64) :
 ∃ gi gb n cap m, w.cell? ⟨b, 0, none⟩ = some (.int .i64 0) ∧ w.cell? ⟨b, 1, none⟩ = some (.slice (some ⟨gi, 0, none⟩) 17408 17408) ∧ w.cell? ⟨b, 2, none⟩ = some (.slice (some ⟨gb, 0, none⟩) n cap) ∧
   w.cell? ⟨gi, k, none⟩ = some (.int .u16 (m : Nat)) ∧ m < n ∧ w.cell? ⟨gb, m * 64 + j, none⟩ = some (.int .u16 (F (k * 64 + j))) := by
 obtain ⟨gi, vb, base, h1, h2, h3, _⟩ := h
 obtain ⟨c0, c1, c2, _⟩ := h1.cells
 have hmem : blkF F k ∈ canonB F 17408 := canonB_mem F hk
 have hlt := idxB_lt hmem
 have hget := idxB_get hmem
 rcases own_cases h3 with ⟨_, hn, _⟩ | ⟨g, cap, hv, _, _, hcell⟩
 ·rw [hn] at hlt
  exact absurd hlt (Nat.not_lt_zero _)
 ·subst hv
  refine ⟨gi, g, _, cap, idxB F 17408 (blkF F k), c0, c1, c2, h2.cell k hk, hlt, ?_⟩
  refine hcell _ _ ?_
  rw [blocksC_get _ (fun l hl => by obtain ⟨q, _, rfl⟩ := canonB_kind F hl; exact blkF_length F q) _ j _ hget hj]
  unfold u16s
  rw [List.getElem?_map, blkF_get F k j hj]
  rfl
theorem Get_calls (H : Nat) (w : World) (b : Nat) (F : Int → Int) (d : Int) (h : TrieFrom H w b F) (hF : d < 0 ∨ 1114111 < d → F d = 0) (hv : 0 ≤ F d ∧ F d ≤ 65535) :
 Calls Tryz.prog 79 #[.pointer (some ⟨b, 0, none⟩), .int .i64 d] w fun e w' => e = .returned (.int .i64 (F d)) ∧ Up w w' := by
 by_cases hd : 0 ≤ d ∧ d ≤ 1114111
 ·obtain ⟨k, hk⟩ : ∃ k : Nat, d / 64 = (k : Int) := Int.eq_ofNat_of_zero_le (Int.ediv_nonneg hd.1 (by decide))
  obtain ⟨j, hj⟩ : ∃ j : Nat, d % 64 = (j : Int) := Int.eq_ofNat_of_zero_le (Int.emod_nonneg _ (by decide))
  have hkl : k < 17408 := by omega
  have hjl : j < 64 := by omega
  obtain ⟨gi, gb, n, cap, m, c0, c1, c2, c3, hm, c4⟩ := h.read k j hkl hjl
  rw [show (k : Int) * 64 + j = d by omega] at c4
  have hq : d.tdiv 64 = (k : Int) := by rw [Int.tdiv_eq_ediv_of_nonneg hd.1]; exact hk
  have hr : d.tmod 64 = (j : Int) := by rw [Int.tmod_eq_emod_of_nonneg hd.1]; exact hj
  obtain ⟨v, hvv⟩ : ∃ v, F d = v := ⟨_, rfl⟩
  rw [hvv] at c4 hv ⊢
  have hwv : wrap64 v = v := by unfold wrap64; omega
  have e1 : decide (d < 0) = false := dFz (by omega)
  have e2 : decide (1114111 < d) = false := dFz (by omega)
  have f1 : 0 ≤ (k : Int) := by omega
  have f2 : (k : Int) < 17408 := by omega
  have f3 : 0 ≤ (j : Int) := by omega
  have f4 : (j : Int) < 64 := by omega
  have f5 : 0 ≤ (m : Int) := by omega
  have f6 : (m : Int) < (n : Int) := by omega
  have a1 := add_zero_none' gi k
  clear h hF hvv hd hk hj
  go_enter Tryz.func79, Tryz.ntmps79
  go_wp2
  go_quiet (fail)
  go_wp2
  go_ret
  exact ⟨rfl, up_drewN (up_refl _) nq⟩
 ·rw [hF (by omega)]
  have hb : ∃ gi gb n cap m, w.cell? ⟨b, 0, none⟩ = some (.int .i64 0) ∧ w.cell? ⟨b, 1, none⟩ = some (.slice (some ⟨gi, 0, none⟩) 17408 17408) ∧ w.cell? ⟨b, 2, none⟩ = some (.slice (some ⟨gb, 0, none⟩) n cap) ∧
   w.cell? ⟨gi, 0, none⟩ = some (.int .u16 (m : Nat)) ∧ m < n ∧ w.cell? ⟨gb, m * 64 + 0, none⟩ = some (.int .u16 (F ((0 : Nat) * 64 + (0 : Nat)))) := h.read 0 0 (by decide) (by decide)
  obtain ⟨gi, gb, n, cap, m, c0, _, _, _, _, _⟩ := hb
  clear h hF hv
  by_cases h0 : d < 0
  ·have e1 : decide (d < 0) = true := dTz h0
   clear h0 hd
   go_enter Tryz.func79, Tryz.ntmps79
   go_wp2
   go_ret
   exact ⟨rfl, up_refl _⟩
  ·have e1 : decide (d < 0) = false := dFz h0
   have e2 : decide (1114111 < d) = true := dTz (by omega)
   clear h0 hd
   go_enter Tryz.func79, Tryz.ntmps79
   go_wp2
   go_ret
   exact ⟨rfl, up_refl _⟩
end Go.Proofs.YtnohcnneflogjaaGreat.M
namespace Go.Proofs.YtnohcnneflogjaaGreat.M
open Go.RowKit
def OwnTab (H : Nat) (w : World) (A : Option Addr) (c : Nat) (T : List Rec) : Prop :=
 ∃ L : List RecP, L.map (·.1) = T ∧ w.ownsRow H 113 8 (.slice A T.length c) T.length (recsCells L) ∧ ∀ p ∈ L, Ints .i32 w p.2.1 p.1.to ∧ ∀ a, p.2.1 = some a → a.block < w.heap.size ∧ (Value.slice A T.length c).ownBlock ≠ some a.block
theorem OwnTab.table {H : Nat} {w : World} {A : Option Addr} {c : Nat} {T : List Rec} (h : OwnTab H w A c T) : Table w A T := by
 obtain ⟨L, hL1, hL2, hL3⟩ := h
 intro q x hx
 have h1 : (L.map (·.1))[q]? = some x := by rw [hL1]; exact hx
 rw [List.getElem?_map] at h1
 obtain ⟨p, hp, hpx⟩ := Option.map_eq_some_iff.1 h1
 subst hpx
 obtain ⟨h4, h5⟩ := hL3 p (List.mem_of_getElem? hp)
 rcases own_cases hL2 with ⟨hv, h0, _⟩ | ⟨g, cap, hv, hg, _, hcell⟩
 ·have := (List.getElem?_eq_some_iff.1 hx).1
  omega
 ·injection hv with e1 e2 e3
  subst e1
  refine ⟨_, rfl, p.2.1, p.2.2, ?_, h4⟩
  rw [add_zero_none]
  exact row_recAt hcell hp
theorem OwnTab.len {H : Nat} {w : World} {A : Option Addr} {c : Nat} {T : List Rec} (h : OwnTab H w A c T) : T.length ≤ c := by
 obtain ⟨L, hL1, hL2, hL3⟩ := h
 rcases hL2.2 with ⟨hv, h0⟩ | ⟨g, cap, cur, hv, _, _, h1, _⟩
 ·omega
 ·injection hv with e1 e2 e3
  omega
theorem OwnTab.up {H : Nat} {w w' : World} {A : Option Addr} {c : Nat} {T : List Rec} (h : OwnTab H w A c T) (hu : Up w w') : OwnTab H w' A c T := by
 obtain ⟨L, hL1, hL2, hL3⟩ := h
 exact ⟨L, hL1, own_up hL2 hu, fun p hp => ⟨(hL3 p hp).1.up hu, fun a ha => ⟨Nat.lt_of_lt_of_le ((hL3 p hp).2 a ha).1 hu.size, ((hL3 p hp).2 a ha).2⟩⟩⟩
theorem wpList_append_tab (w wo : World) {ops : Array Oper} {rest : List Oper} {o : Oper} {a : Act} {Q : Exit → Act → World → Prop} (hgd : o.guard = none) (s x : Operand)
 (ho : o.op = .call { callee := .builtin .append, args := #[s, x], argTypes := #[22, 22] }) (H : Nat) (A : Option Addr) (n c : Nat) (T : List Rec) (hs : a.eval s = .slice A n c) (hn : T.length = n) (hT : OwnTab H wo A c T) (hu : Up wo w)
 (ad : Addr) (M : List RecP) (m c' : Nat) (hx : a.eval x = .slice (some ad) m c') (hm : M.length = m) (hpos : 0 < m) (hnews : ∀ (j : Nat) (u : Value), (recsCells M)[j]? = some u → w.cell? (ad.add j) = some u)
 (hM : ∀ p ∈ M, Ints .i32 w p.2.1 p.1.to ∧ ∀ a, p.2.1 = some a → a.block < w.heap.size ∧ wo.heap.size ≤ a.block) (hl : n + m ≤ 4096) (hbase : H ≤ wo.heap.size)
 (hK : ∀ g cap w', OwnTab H w' (some ⟨g, 0, none⟩) cap (T ++ M.map (·.1)) → Chg (fun k => H ≤ k) w w' → wpList Tryz.prog ops Q rest (a.put o.dst (.slice (some ⟨g, 0, none⟩) (n + m) cap)) w') : wpList Tryz.prog ops Q (o :: rest) a w := by
 subst hn
 subst hm
 obtain ⟨L, hL1, hL2, hL3⟩ := hT
 obtain ⟨ir, zr, hir, hzr, hsr, hbr, hzr2⟩ := rec_info
 have hone : ∀ u ∈ recsCells M, u.oneCell' = true := fun u hu => by
  obtain ⟨p, _, hp⟩ := List.mem_flatMap.1 hu
  exact pcells_one p u hp
 refine wpList_append_lies w hgd s x 22 ho H 113 ir zr 8 96 Tryz.underlying22 hir hzr hsr hbr hzr2 (by decide) (.slice A T.length c) T.length (recsCells L) hs (own_up hL2 hu) ad M.length c' (recsCells M) hx (recsCells_length M) hnews hone hpos (by unfold maxLen; omega) (by omega) (Nat.le_trans hbase hu.size) _ rfl ?_
 intro g cap w' hown hgrow hat hlt
 have hlen : (T ++ M.map (·.1)).length = T.length + M.length := by rw [List.length_append, List.length_map]
 refine hK g cap w' ⟨L ++ M, by rw [List.map_append, hL1], ?_, fun p hp => ?_⟩ (Chg.of_grown (M := fun k => H ≤ k) hgrow (fun k hk => (hL2.lt k hk).1))
 ·rw [hlen]
  simpa [recsCells] using hown
 ·have key : Ints .i32 w p.2.1 p.1.to ∧ ∀ a, p.2.1 = some a → a.block < w.heap.size ∧ (Value.slice A T.length c).ownBlock ≠ some a.block := by
   rcases List.mem_append.1 hp with hp | hp
   ·exact ⟨(hL3 p hp).1.up hu, fun a ha => ⟨Nat.lt_of_lt_of_le ((hL3 p hp).2 a ha).1 hu.size, ((hL3 p hp).2 a ha).2⟩⟩
   ·refine ⟨(hM p hp).1, fun a ha => ⟨((hM p hp).2 a ha).1, fun e => ?_⟩⟩
    have h1 := (hL2.lt _ e).2
    have h2 := ((hM p hp).2 a ha).2
    omega
  refine ⟨ints_beside key.1 hgrow (fun a ha => (key.2 a ha).2), fun a ha => ⟨Nat.lt_of_lt_of_le (key.2 a ha).1 hgrow.size, fun e => ?_⟩⟩
  have e' : g = a.block := by injection e
  rcases hat with h3 | h3
  ·exact (key.2 a ha).2 (by rw [h3, e'])
  ·have := (key.2 a ha).1
   omega
theorem own_tab_lit (w : World) (M : List RecP) (n : Nat) (hn : M.length = n) (hl : n ≤ 4096) (hM : ∀ p ∈ M, p.2.1 = none ∧ p.1.to = []) : OwnTab w.heap.size (w.alloc (.cells (recsCells M).toArray 113)) (some ⟨w.heap.size, 0, none⟩) n (M.map (·.1)) := by
 subst hn
 refine ⟨M, rfl, ?_, fun p hp => ⟨?_, fun a ha => ?_⟩⟩
 ·rw [List.length_map]
  have := World.ownsRow_lit (e := 113) (size := 8) w (recsCells M).toArray M.length (Nat.le_refl _) (by unfold maxLen; omega) (by simp [recsCells_length])
  simpa using this
 ·rw [(hM p hp).2, (hM p hp).1]
  exact Cells.nil _ _
 ·rw [(hM p hp).1] at ha
  cases ha
theorem build_recs3 (x y z : Rec) (A B C : Option Addr) (a b c : Nat) (w : World) : (Instr.buildSlice 22 3 #[(0, recV x A a), (1, recV y B b), (2, recV z C c)]).run Tryz.prog w = .ok (.slice (some ⟨w.heap.size, 0, none⟩) 3 3) (w.alloc (.cells (recsCells [(x, A, a), (y, B, b), (z, C, c)]).toArray 113)) := by kernel_rfl
theorem build_recs4 (x y z u : Rec) (A B C D : Option Addr) (a b c d : Nat) (w : World) : (Instr.buildSlice 22 4 #[(0, recV x A a), (1, recV y B b), (2, recV z C c), (3, recV u D d)]).run Tryz.prog w = .ok (.slice (some ⟨w.heap.size, 0, none⟩) 4 4) (w.alloc (.cells (recsCells [(x, A, a), (y, B, b), (z, C, c), (u, D, d)]).toArray 113)) := by kernel_rfl
theorem build_one (a : Int) (w : World) : (Instr.buildSlice 23 1 #[(0, .int .i32 a)]).run Tryz.prog w = .ok (.slice (some ⟨w.heap.size, 0, none⟩) 1 1) (w.alloc (.cells #[.int .i32 a] 21)) := by kernel_rfl
theorem cells_new (w : World) (cs : Array Value) (t : TypeId) : ∀ (j : Nat) (u : Value), cs.toList[j]? = some u → (w.alloc (.cells cs t)).cell? ((⟨w.heap.size, 0, none⟩ : Addr).add j) = some u := by
 intro j u hu
 rw [add_zero_none, World.cell?_alloc_new]
 simpa using hu
def apartB (a b : Rec) : Bool := !decide (fam a.kind = fam b.kind) || (decide (a.kind ≠ 15) && (decide (a.hi < b.lo) || decide (b.hi < a.lo)))
theorem clash_far {a b : Rec} (ha : Right a) (hb : Right b) (h : apartB a b = true) : clashB a b = false := by
 unfold apartB at h
 unfold clashB
 by_cases hf : fam a.kind = fam b.kind
 ·rw [dTz hf] at h ⊢
  simp at h
  rw [Bool.true_and, if_neg h.1]
  have la := ha.low
  have lb := hb.low
  exact meet_empty ha hb (by omega)
 ·rw [dFz hf]
  rfl
def apartL : List Rec → Bool
 | [] => true
 | a :: l => l.all (apartB a) && apartL l
theorem apartL_two : ∀ {T : List Rec} (hR : ∀ x ∈ T, Right x), apartL T = true → T.Pairwise (fun a b => clashB a b = false)
 | [], _, _ => List.Pairwise.nil
 | a :: l, hR, h => by
   unfold apartL at h
   simp only [Bool.and_eq_true] at h
   refine List.Pairwise.cons (fun b hb => ?_) (apartL_two (fun x hx => hR x (by simp [hx])) h.2)
   exact clash_far (hR a (by simp)) (hR b (by simp [hb])) (List.all_eq_true.1 h.1 b hb)
theorem fine_said {T : List Rec} (h0 : T.length ≤ 4096) (h1 : ∀ x ∈ T, Right x) (h2 : apartL T = true) (h3 : (List.range T.length).all (fun i => decide (recordE T i = 0)) = true) (h4 : bases.all (plainB T) = true) : (checkE T).2 = 0 := by
 have hp := List.pairwise_iff_getElem.1 (apartL_two h1 h2)
 have ht := tableE_right' h0 h1 (fun i j a b hij ha hb => by
  have h5 := List.getElem?_eq_some_iff.1 ha
  have h6 := List.getElem?_eq_some_iff.1 hb
  have := hp i j h5.1 h6.1 hij
  rw [h5.2, h6.2] at this
  exact this)
 have h5 := checkE_bases (T := T) (by rw [ht]) (fun j hj => by simpa using (List.all_eq_true.1 h3) j (List.mem_range.2 hj))
 rw [h5, h4]
 rfl
def sayR (k lo hi n : Int) (l : List Int) (u : Nat) : Rec := ⟨k, lo, hi, n, l, ⟨#[]⟩, ⟨#[]⟩, u⟩
theorem empty_list : (⟨#[]⟩ : ByteArray).toList = [] := by
 unfold ByteArray.toList ByteArray.toList.loop
 rfl
def littleT : List Rec := [sayR 1 97 122 0 [] 0, sayR 1 48 57 0 [] 0, sayR 1 45 46 0 [] 0, sayR 4 65 90 1 [97] 0, sayR 1 224 224 0 [] 0, sayR 1 768 768 0 [] 0, sayR 7 224 224 0 [97, 768] 0, sayR 6 768 768 230 [] 0, sayR 11 768 768 0 [] 0, sayR 14 224 224 0 [] 4591870180066957722]
theorem littleT_right : ∀ x ∈ littleT, Right x := by
 intro x hx
 unfold littleT at hx
 simp only [List.mem_cons, List.not_mem_nil, or_false] at hx
 rcases hx with rfl | rfl | rfl | rfl | rfl | rfl | rfl | rfl | rfl | rfl <;> (simp [Right, rightE, fam, fams, rd, spanB, fitsB, bareB, sayR, empty_list, listB, shiftsB, oneB, validB, weightB, wrap32, wrap64])
theorem littleT_wf : ∀ x ∈ littleT, x.Wf := by
 intro x hx
 unfold littleT at hx
 simp only [List.mem_cons, List.not_mem_nil, or_false] at hx
 rcases hx with rfl | rfl | rfl | rfl | rfl | rfl | rfl | rfl | rfl | rfl <;> exact ⟨by decide, by decide, by decide, by decide, by decide, by decide, by decide, by decide, by decide⟩
theorem littleT_fine : (checkE littleT).2 = 0 := fine_said (by decide) littleT_right (by decide) (by decide) (by decide)
theorem ints_new (w : World) (l : List Int) : Ints .i32 (w.alloc (.cells (l.map (Value.int .i32)).toArray 21)) (some ⟨w.heap.size, 0, none⟩) l := by
 intro i v hv
 refine ⟨_, rfl, ?_⟩
 exact cells_new w _ _ i v (by simpa using hv)
theorem size_two (w : World) (o1 o2 : Obj) : ((w.alloc o1).alloc o2).heap.size = w.heap.size + 1 + 1 := by simp
theorem size_one (w : World) (o : Obj) : (w.alloc o).heap.size = w.heap.size + 1 := by simp
theorem little_two (w4 : World) : (∀ p ∈ ([(sayR 7 224 224 0 [97, 768] 0, some (⟨w4.heap.size, 0, none⟩ : Addr), 2), (sayR 6 768 768 230 [] 0, none, 0), (sayR 11 768 768 0 [] 0, none, 0), (sayR 14 224 224 0 [] 4591870180066957722, none, 0)] : List RecP), Ints .i32 ((w4.alloc (.cells #[.int .i32 97, .int .i32 768] 21)).alloc (.cells (recsCells [(sayR 7 224 224 0 [97, 768] 0, some (⟨w4.heap.size, 0, none⟩ : Addr), 2), (sayR 6 768 768 230 [] 0, none, 0), (sayR 11 768 768 0 [] 0, none, 0), (sayR 14 224 224 0 [] 4591870180066957722, none, 0)]).toArray 113)) p.2.1 p.1.to ∧ ∀ a, p.2.1 = some a → a.block < ((w4.alloc (.cells #[.int .i32 97, .int .i32 768] 21)).alloc (.cells (recsCells [(sayR 7 224 224 0 [97, 768] 0, some (⟨w4.heap.size, 0, none⟩ : Addr), 2), (sayR 6 768 768 230 [] 0, none, 0), (sayR 11 768 768 0 [] 0, none, 0), (sayR 14 224 224 0 [] 4591870180066957722, none, 0)]).toArray 113)).heap.size ∧ w4.heap.size ≤ a.block) ∧ (∀ (j : Nat) (u : Value), (recsCells [(sayR 7 224 224 0 [97, 768] 0, some (⟨w4.heap.size, 0, none⟩ : Addr), 2), (sayR 6 768 768 230 [] 0, none, 0), (sayR 11 768 768 0 [] 0, none, 0), (sayR 14 224 224 0 [] 4591870180066957722, none, 0)])[j]? = some u → ((w4.alloc (.cells #[.int .i32 97, .int .i32 768] 21)).alloc (.cells (recsCells [(sayR 7 224 224 0 [97, 768] 0, some (⟨w4.heap.size, 0, none⟩ : Addr), 2), (sayR 6 768 768 230 [] 0, none, 0), (sayR 11 768 768 0 [] 0, none, 0), (sayR 14 224 224 0 [] 4591870180066957722, none, 0)]).toArray 113)).cell? ((⟨w4.heap.size + 1, 0, none⟩ : Addr).add j) = some u) := by
 refine ⟨fun p hp => ?_, fun j u hu => ?_⟩
 ·have h0 := ints_new w4 [97, 768]
  have h1 := h0.up (up_alloc (up_refl _) (.cells (recsCells [(sayR 7 224 224 0 [97, 768] 0, some (⟨w4.heap.size, 0, none⟩ : Addr), 2), (sayR 6 768 768 230 [] 0, none, 0), (sayR 11 768 768 0 [] 0, none, 0), (sayR 14 224 224 0 [] 4591870180066957722, none, 0)]).toArray 113))
  simp only [List.mem_cons, List.not_mem_nil, or_false] at hp
  rcases hp with rfl | rfl | rfl | rfl
  ·exact ⟨h1, fun a ha => by cases ha; exact ⟨by rw [size_two]; show w4.heap.size < _; omega, Nat.le_refl _⟩⟩
  ·exact ⟨Cells.nil _ _, fun a ha => by cases ha⟩
  ·exact ⟨Cells.nil _ _, fun a ha => by cases ha⟩
  ·exact ⟨Cells.nil _ _, fun a ha => by cases ha⟩
 ·have := cells_new (w4.alloc (.cells #[.int .i32 97, .int .i32 768] 21)) (recsCells [(sayR 7 224 224 0 [97, 768] 0, some (⟨w4.heap.size, 0, none⟩ : Addr), 2), (sayR 6 768 768 230 [] 0, none, 0), (sayR 11 768 768 0 [] 0, none, 0), (sayR 14 224 224 0 [] 4591870180066957722, none, 0)]).toArray 113 j u (by simpa using hu)
  rwa [size_one] at this
attribute [-go_sem] Instr.buildSlice
theorem Little_calls (w : World) : Calls Tryz.prog 29 #[] w fun e w' => ∃ A c, e = .returned (.slice A 10 c) ∧ OwnTab w.heap.size w' A c littleT ∧ Up w w' := by
 have hu96 := Tryz.underlying113
 have hb1 : ∀ W, (Instr.buildSlice 22 3 #[(0, .agg #[.int .i64 1, .int .i64 97, .int .i64 122, .int .i64 0, .slice none 0 0, .string ⟨#[]⟩, .string ⟨#[]⟩, .float .f64 0]), (1, .agg #[.int .i64 1, .int .i64 48, .int .i64 57, .int .i64 0, .slice none 0 0, .string ⟨#[]⟩, .string ⟨#[]⟩, .float .f64 0]), (2, .agg #[.int .i64 1, .int .i64 45, .int .i64 46, .int .i64 0, .slice none 0 0, .string ⟨#[]⟩, .string ⟨#[]⟩, .float .f64 0])]).run Tryz.prog W = .ok (.slice (some ⟨W.heap.size, 0, none⟩) 3 3) (W.alloc (.cells (recsCells [(sayR 1 97 122 0 [] 0, none, 0), (sayR 1 48 57 0 [] 0, none, 0), (sayR 1 45 46 0 [] 0, none, 0)]).toArray 113)) := fun W => build_recs3 (sayR 1 97 122 0 [] 0) (sayR 1 48 57 0 [] 0) (sayR 1 45 46 0 [] 0) none none none 0 0 0 W
 have hb2 := build_one 97
 have hb3 : ∀ A W, (Instr.buildSlice 22 3 #[(0, .agg #[.int .i64 4, .int .i64 65, .int .i64 90, .int .i64 1, .slice A 1 1, .string ⟨#[]⟩, .string ⟨#[]⟩, .float .f64 0]), (1, .agg #[.int .i64 1, .int .i64 224, .int .i64 224, .int .i64 0, .slice none 0 0, .string ⟨#[]⟩, .string ⟨#[]⟩, .float .f64 0]), (2, .agg #[.int .i64 1, .int .i64 768, .int .i64 768, .int .i64 0, .slice none 0 0, .string ⟨#[]⟩, .string ⟨#[]⟩, .float .f64 0])]).run Tryz.prog W = .ok (.slice (some ⟨W.heap.size, 0, none⟩) 3 3) (W.alloc (.cells (recsCells [(sayR 4 65 90 1 [97] 0, A, 1), (sayR 1 224 224 0 [] 0, none, 0), (sayR 1 768 768 0 [] 0, none, 0)]).toArray 113)) := fun A W => build_recs3 (sayR 4 65 90 1 [97] 0) (sayR 1 224 224 0 [] 0) (sayR 1 768 768 0 [] 0) A none none 1 0 0 W
 have hb4 := build_two 97 768
 have hb5 : ∀ A W, (Instr.buildSlice 22 4 #[(0, .agg #[.int .i64 7, .int .i64 224, .int .i64 224, .int .i64 0, .slice A 2 2, .string ⟨#[]⟩, .string ⟨#[]⟩, .float .f64 0]), (1, .agg #[.int .i64 6, .int .i64 768, .int .i64 768, .int .i64 230, .slice none 0 0, .string ⟨#[]⟩, .string ⟨#[]⟩, .float .f64 0]), (2, .agg #[.int .i64 11, .int .i64 768, .int .i64 768, .int .i64 0, .slice none 0 0, .string ⟨#[]⟩, .string ⟨#[]⟩, .float .f64 0]), (3, .agg #[.int .i64 14, .int .i64 224, .int .i64 224, .int .i64 0, .slice none 0 0, .string ⟨#[]⟩, .string ⟨#[]⟩, .float .f64 4591870180066957722])]).run Tryz.prog W = .ok (.slice (some ⟨W.heap.size, 0, none⟩) 4 4) (W.alloc (.cells (recsCells [(sayR 7 224 224 0 [97, 768] 0, A, 2), (sayR 6 768 768 230 [] 0, none, 0), (sayR 11 768 768 0 [] 0, none, 0), (sayR 14 224 224 0 [] 4591870180066957722, none, 0)]).toArray 113)) := fun A W => build_recs4 (sayR 7 224 224 0 [97, 768] 0) (sayR 6 768 768 230 [] 0) (sayR 11 768 768 0 [] 0) (sayR 14 224 224 0 [] 4591870180066957722) A none none none 2 0 0 0 W
 have hR1 : ∃ R1, R1 = [(sayR 1 97 122 0 [] 0, (none : Option Addr), 0), (sayR 1 48 57 0 [] 0, none, 0), (sayR 1 45 46 0 [] 0, none, 0)] := ⟨_, rfl⟩
 obtain ⟨R1, hR1⟩ := hR1
 rw [← hR1] at hb1
 have HT1 : Az (OwnTab w.heap.size (w.alloc (.cells (recsCells R1).toArray 113)) (some ⟨w.heap.size, 0, none⟩) 3 [sayR 1 97 122 0 [] 0, sayR 1 48 57 0 [] 0, sayR 1 45 46 0 [] 0]) := ⟨by
  subst hR1
  exact own_tab_lit w _ 3 rfl (by decide) (fun p hp => by simp at hp; rcases hp with rfl | rfl | rfl <;> exact ⟨rfl, rfl⟩)⟩
 have HU1 : Az (Up w (w.alloc (.cells (recsCells R1).toArray 113))) := ⟨up_alloc (up_refl _) _⟩
 have HS1 : Az ((w.alloc (.cells (recsCells R1).toArray 113)).heap.size = w.heap.size + 1) := ⟨size_one _ _⟩
 have hM1 : ∃ M1, M1 = [(sayR 4 65 90 1 [97] 0, some (⟨w.heap.size + 1, 0, none⟩ : Addr), 1), (sayR 1 224 224 0 [] 0, none, 0), (sayR 1 768 768 0 [] 0, none, 0)] := ⟨_, rfl⟩
 obtain ⟨M1, hM1⟩ := hM1
 have hb3' := hb3 (some ⟨w.heap.size + 1, 0, none⟩)
 rw [← hM1] at hb3'
 have HM1 : Az (∀ p ∈ M1, Ints .i32 (((w.alloc (.cells (recsCells R1).toArray 113)).alloc (.cells #[.int .i32 97] 21)).alloc (.cells (recsCells M1).toArray 113)) p.2.1 p.1.to ∧ ∀ a, p.2.1 = some a → a.block < (((w.alloc (.cells (recsCells R1).toArray 113)).alloc (.cells #[.int .i32 97] 21)).alloc (.cells (recsCells M1).toArray 113)).heap.size ∧ (w.alloc (.cells (recsCells R1).toArray 113)).heap.size ≤ a.block) := ⟨fun p hp => by
  have h0 := ints_new (w.alloc (.cells (recsCells R1).toArray 113)) [97]
  rw [size_one] at h0
  have h1 := h0.up (up_alloc (up_refl _) (.cells (recsCells M1).toArray 113))
  have hp' := hp
  rw [hM1] at hp'
  simp at hp'
  rcases hp' with rfl | rfl | rfl
  ·exact ⟨h1, fun a ha => by cases ha; simp⟩
  ·exact ⟨Cells.nil _ _, fun a ha => by cases ha⟩
  ·exact ⟨Cells.nil _ _, fun a ha => by cases ha⟩⟩
 have HN1 : Az (∀ (j : Nat) (u : Value), (recsCells M1)[j]? = some u → (((w.alloc (.cells (recsCells R1).toArray 113)).alloc (.cells #[.int .i32 97] 21)).alloc (.cells (recsCells M1).toArray 113)).cell? ((⟨w.heap.size + 1 + 1, 0, none⟩ : Addr).add j) = some u) := ⟨fun j u hu => by
  have := cells_new ((w.alloc (.cells (recsCells R1).toArray 113)).alloc (.cells #[.int .i32 97] 21)) (recsCells M1).toArray 113 j u (by simpa using hu)
  rwa [size_two] at this⟩
 have HU13 : Az (Up (w.alloc (.cells (recsCells R1).toArray 113)) (((w.alloc (.cells (recsCells R1).toArray 113)).alloc (.cells #[.int .i32 97] 21)).alloc (.cells (recsCells M1).toArray 113))) := ⟨up_alloc (up_alloc (up_refl _) _) _⟩
 have HML1 : Az (M1.length = 3 ∧ M1.map (·.1) = [sayR 4 65 90 1 [97] 0, sayR 1 224 224 0 [] 0, sayR 1 768 768 0 [] 0]) := ⟨by subst hM1; exact ⟨rfl, rfl⟩⟩
 clear hb3 hM1 hR1
 go_enter Tryz.func29, Tryz.ntmps29
 go_wp2_with (first | (at_builtin; refine (wpList_append_tab _ _ rfl _ _ rfl w.heap.size (some ⟨w.heap.size, 0, none⟩) 3 3 _ rfl rfl HT1.out HU13.out ⟨w.heap.size + 1 + 1, 0, none⟩ M1 3 3 rfl HML1.out.1 (by decide) HN1.out HM1.out (by decide) HU1.out.size ?_); intro g4 cap4 w4 hT4 hch4; have HT4 := Az.mk hT4; have HCH4 := Az.mk hch4; clear hT4 hch4) | (at_builtin; refine (wpList_append_tab _ w4 rfl _ _ rfl w.heap.size (some ⟨g4, 0, none⟩) 6 cap4 _ rfl (by rw [List.length_append, HML1.out.2]; rfl) HT4.out (up_alloc (up_alloc (up_refl _) _) _) ⟨w4.heap.size + 1, 0, none⟩ [(sayR 7 224 224 0 [97, 768] 0, some (⟨w4.heap.size, 0, none⟩ : Addr), 2), (sayR 6 768 768 230 [] 0, none, 0), (sayR 11 768 768 0 [] 0, none, 0), (sayR 14 224 224 0 [] 4591870180066957722, none, 0)] 4 4 rfl rfl (by decide) (little_two w4).2 (little_two w4).1 (by decide) (Nat.le_trans HU1.out.size (Nat.le_trans HU13.out.size HCH4.out.size)) ?_); intro g7 cap7 w7 hT7 hch7))
 go_ret
 refine ⟨some ⟨g7, 0, none⟩, cap7, rfl, ?_, ?_⟩
 ·rw [HML1.out.2] at hT7
  exact hT7
 ·exact ((((Chg.of_up (M := fun k => w.heap.size ≤ k) (up_trans HU1.out HU13.out)).trans HCH4.out (fun k h => .inl h)).trans (Chg.of_up (M := fun _ => False) (up_alloc (up_alloc (up_refl w4) _) _)) (fun _ h => h.elim)).trans hch7 (fun k h => .inl h)).below (Nat.le_refl _) (fun k h => h)
end Go.Proofs.YtnohcnneflogjaaGreat.M
