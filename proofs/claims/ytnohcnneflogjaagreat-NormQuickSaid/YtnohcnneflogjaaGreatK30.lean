/- Names of scripts, each once; what newScripts makes, as it is made. -/
import Derived.Test.YtnohcnneflogjaaGreatK26
import Derived.Test.YtnohcnneflogjaaGreatK06
import Derived.Test.YtnohcnneflogjaaGreatK28
import Derived.Test.YtnohcnneflogjaaGreatK27
set_option maxHeartbeats 16000000
set_option maxRecDepth 100000
set_option linter.unusedVariables false
set_option linter.unusedSimpArgs false
namespace Go.Proofs.YtnohcnneflogjaaGreat.M
open Go.RowKit Go.WideMaps
instance bytes_lawful : LawfulBEq ByteArray where
 eq_of_beq {a b} h := by
  cases a
  cases b
  exact congrArg ByteArray.mk (eq_of_beq h)
 rfl {a} := by
  cases a
  rename_i d
  exact beq_self_eq_true d
def onceR : List ByteArray → List ByteArray
 | [] => []
 | n :: l => if n ∈ onceR l then onceR l else onceR l ++ [n]
theorem onceR_prefix (l : List ByteArray) : ∀ r, onceR l <+: onceR (r ++ l)
 | [] => List.prefix_refl _
 | n :: r => by
   show _ <+: if n ∈ onceR (r ++ l) then onceR (r ++ l) else onceR (r ++ l) ++ [n]
   split
   ·exact onceR_prefix l r
   ·exact (onceR_prefix l r).trans (List.prefix_append _ _)
theorem onceR_mem : ∀ (l : List ByteArray) n, n ∈ l → n ∈ onceR l
 | [], n, h => by cases h
 | x :: l, n, h => by
   show n ∈ if x ∈ onceR l then onceR l else onceR l ++ [x]
   rcases List.mem_cons.1 h with h | h
   ·subst h
    split
    ·assumption
    ·simp
   ·split
    ·exact onceR_mem l n h
    ·exact List.mem_append.2 (.inl (onceR_mem l n h))
theorem onceR_length : ∀ l : List ByteArray, (onceR l).length ≤ l.length
 | [] => Nat.le_refl _
 | x :: l => by
   have := onceR_length l
   show (if x ∈ onceR l then onceR l else onceR l ++ [x]).length ≤ l.length + 1
   split
   ·omega
   ·rw [List.length_append]
    exact Nat.succ_le_succ this
def onceL (l : List ByteArray) : List ByteArray := onceR l.reverse
theorem onceL_snoc (l : List ByteArray) (n : ByteArray) : onceL (l ++ [n]) = if n ∈ onceL l then onceL l else onceL l ++ [n] := by
 unfold onceL
 rw [List.reverse_append]
 rfl
theorem onceL_prefix (l r : List ByteArray) : onceL l <+: onceL (l ++ r) := by
 unfold onceL
 rw [List.reverse_append]
 exact onceR_prefix _ _
theorem onceL_mem (l : List ByteArray) (n : ByteArray) (h : n ∈ l) : n ∈ onceL l := onceR_mem _ _ (List.mem_reverse.2 h)
theorem onceL_length (l : List ByteArray) : (onceL l).length ≤ l.length := by
 have := onceR_length l.reverse
 rwa [List.length_reverse] at this
theorem idxOf_prefix {l m : List ByteArray} (h : l <+: m) {n : ByteArray} (hn : n ∈ l) : m.idxOf n = l.idxOf n := by
 obtain ⟨r, rfl⟩ := h
 rw [List.idxOf_append, if_pos hn]
def addN (L : List ByteArray) (n : ByteArray) : List ByteArray := if n ∈ L then L else L ++ [n]
def namesR (P : List Rec) : List ByteArray := onceL (P.map (·.name))
theorem namesR_snoc (P : List Rec) (x : Rec) : namesR (P ++ [x]) = addN (namesR P) x.name := by
 unfold namesR addN
 rw [List.map_append]
 exact onceL_snoc _ _
theorem namesR_take {P : List Rec} {j : Nat} {x : Rec} (h : P[j]? = some x) : namesR (P.take (j + 1)) = addN (namesR (P.take j)) x.name := by
 have : P.take (j + 1) = P.take j ++ [x] := by
  rw [List.take_add_one, h]
  rfl
 rw [this, namesR_snoc]
def placeN (P : List Rec) (n : ByteArray) : Int := ((namesR P).idxOf n : Int) + 1
theorem placeN_take {P : List Rec} {j : Nat} {n : ByteArray} (h : n ∈ namesR (P.take j)) : placeN (P.take j) n = placeN P n := by
 unfold placeN
 have : namesR (P.take j) <+: namesR P := by
  have := onceL_prefix ((P.take j).map (·.name)) ((P.drop j).map (·.name))
  rw [← List.map_append, List.take_append_drop] at this
  exact this
 rw [idxOf_prefix this h]
def scrV (P : List Rec) (j : Nat) : Int := placeN P (P.getD j default).name
def idxG (L : List ByteArray) (n : ByteArray) : Option Value := if n ∈ L then some (.int .i64 ((L.idxOf n : Int) + 1)) else none
theorem idxG_snoc {L : List ByteArray} {n : ByteArray} (hn : n ∉ L) (s : ByteArray) : idxG (L ++ [n]) s = putV (idxG L) n (.int .i64 ((L.length : Int) + 1)) s := by
 unfold idxG putV
 by_cases hs : s = n
 ·subst hs
  rw [if_pos (by simp), if_pos rfl, List.idxOf_append, if_neg hn]
  simp
 ·rw [if_neg hs]
  by_cases h : s ∈ L
  ·show _ = if s ∈ L then _ else _
   rw [if_pos h, if_pos (by simp [h]), List.idxOf_append, if_pos h]
  ·show _ = if s ∈ L then _ else _
   rw [if_neg h, if_neg (by simp [h, hs])]
theorem keyed_str : Go.Maps.Keyed Tryz.prog 9 := Go.Maps.string_keyed Tryz.underlying9
theorem key_str (s : ByteArray) (hs : s.size ≤ maxLen) : KeyOk Tryz.prog 9 (.string s) := by
 have hu := Tryz.underlying9
 unfold KeyOk
 simp [keyOf, mapKey, hu, hs]
theorem strV_inj (a b : ByteArray) (h : Value.string a = Value.string b) : a = b := by injection h
theorem strInfo : (Tryz.prog.info? 9).map (fun i => (i.zero.map (fun z => z.cells.size), i.size, i.bytes)) = some (some 1, 1, 16) := by kernel_rfl
theorem str_info : ∃ (i : TypeInfo) (z : Value), Tryz.prog.info? 9 = some i ∧ i.zero = some z ∧ i.size = 1 ∧ i.bytes = 16 ∧ z.cells.size = 1 := by
 have h := strInfo
 cases hq : Tryz.prog.info? 9 with
 | none => rw [hq] at h; cases h
 | some i =>
   rw [hq] at h
   simp only [Option.map_some, Option.some.injEq, Prod.mk.injEq] at h
   cases hz : i.zero with
   | none => rw [hz] at h; cases h.1
   | some z =>
     rw [hz] at h
     simp only [Option.map_some, Option.some.injEq] at h
     exact ⟨i, z, rfl, hz, h.2.1, h.2.2, h.1⟩
theorem build_str (s : ByteArray) (w : World) : (Instr.buildSlice 48 1 #[(0, .string s)]).run Tryz.prog w = .ok (.slice (some ⟨w.heap.size, 0, none⟩) 1 1) (w.alloc (.cells #[.string s] 9)) := by kernel_rfl
theorem zero_i64 (w : World) : (zeroValue 3).run Tryz.prog w = .ok (.int .i64 0) w := by kernel_rfl
def strs_ (L : List ByteArray) : List Value := L.map Value.string
structure ScrI (H gA gS bm : Nat) (L : List ByteArray) (A : Option Addr) (c : Nat) (w : World) : Prop where
 at_ : w.heap[gA]? = some (.cells #[.map (some bm)] 178 (0, 0))
 box : w.heap[gS]? = some (.cells #[.pointer none, .slice A L.length c] 50 (0, 0))
 row : w.ownsRow H 9 1 (.slice A L.length c) L.length (strs_ L)
 map : ValMap 9 Value.string H w bm L.length (idxG L)
 ne : gS < bm ∧ bm < gA ∧ H ≤ gS ∧ ∀ k, (Value.slice A L.length c).ownBlock = some k → gA < k
def scrS (gA gS bm : Nat) (v : Value) (k : Nat) : Prop := k = gA ∨ k = gS ∨ k = bm ∨ v.ownBlock = some k
theorem ScrI.lt {H gA gS bm : Nat} {L : List ByteArray} {A : Option Addr} {c : Nat} {w : World} (h : ScrI H gA gS bm L A c w) (k : Nat) (hk : scrS gA gS bm (.slice A L.length c) k) : k < w.heap.size := by
 rcases hk with rfl | rfl | rfl | hk
 ·exact (Array.getElem?_eq_some_iff.1 h.at_).1
 ·exact (Array.getElem?_eq_some_iff.1 h.box).1
 ·exact h.map.lt
 ·exact (h.row.lt k hk).2
theorem ScrI.st {H gA gS bm : Nat} {L : List ByteArray} {A : Option Addr} {c : Nat} {w w' : World} {M : Nat → Prop} (h : ScrI H gA gS bm L A c w) (hc : Chg M w w') (hM : ∀ k, scrS gA gS bm (.slice A L.length c) k → ¬ M k) : ScrI H gA gS bm L A c w' := by
 refine ⟨?_, ?_, own_chg h.row hc (fun k hk => hM k (.inr (.inr (.inr hk)))), ?_, h.ne⟩
 ·rw [hc.block gA (h.lt gA (.inl rfl)) (hM gA (.inl rfl))]; exact h.at_
 ·rw [hc.block gS (h.lt gS (.inr (.inl rfl))) (hM gS (.inr (.inl rfl)))]; exact h.box
 ·obtain ⟨n, F, h1, h2, h3, h4⟩ := h.map
  exact ⟨n, F, h1, h2, h3.block (hc.block bm h3.lt (hM bm (.inr (.inr (.inl rfl))))), h4⟩
theorem ScrI.snoc {H gA gS bm : Nat} {L : List ByteArray} {n : ByteArray} {A : Option Addr} {c : Nat} {w : World} (hn : n ∉ L) (h1 : w.heap[gA]? = some (.cells #[.map (some bm)] 178 (0, 0)))
 (h2 : w.heap[gS]? = some (.cells #[.pointer none, .slice A (L.length + 1) c] 50 (0, 0))) (h3 : w.ownsRow H 9 1 (.slice A (L.length + 1) c) (L.length + 1) (strs_ L ++ [.string n]))
 (h4 : ValMap 9 Value.string H w bm (L.length + 1) (putV (idxG L) n (.int .i64 ((L.length : Int) + 1)))) (h5 : gS < bm ∧ bm < gA ∧ H ≤ gS ∧ ∀ k, (Value.slice A (L.length + 1) c).ownBlock = some k → gA < k) : ScrI H gA gS bm (L ++ [n]) A c w := by
 have e : (L ++ [n]).length = L.length + 1 := by simp
 have e2 : strs_ (L ++ [n]) = strs_ L ++ [.string n] := by simp [strs_]
 refine ⟨h1, by rw [e]; exact h2, by rw [e, e2]; exact h3, by rw [e]; exact h4.congr (fun s => (idxG_snoc hn s).symm), by rw [e]; exact h5⟩
end Go.Proofs.YtnohcnneflogjaaGreat.M
namespace Go.Proofs.YtnohcnneflogjaaGreat.M
open Go.RowKit
theorem own_any_at {w : World} {base : Nat} {e : TypeId} {size : Nat} {v : Value} {n : Nat} {xs : List Value} (h : w.ownsRow base e size v n xs) : ∃ A c, v = .slice A n c := own_any h
theorem scripts1_calls (H gA gS bm : Nat) (L : List ByteArray) (A : Option Addr) (c : Nat) (x : Rec) (A' : Option Addr) (c' : Nat) (w : World) (hI : ScrI H gA gS bm L A c w) (hn : x.name.size ≤ maxLen) (hl : L.length ≤ 4096) :
 Calls Tryz.prog 162 #[recV x A' c', .pointer (some ⟨gA, 0, none⟩), .pointer (some ⟨gS, 0, none⟩)] w fun e w' => ∃ L' A2 c2, L' = addN L x.name ∧ e = .returned (.int .i64 ((L'.idxOf x.name : Int) + 1)) ∧
  ScrI H gA gS bm L' A2 c2 w' ∧ Chg (scrS gA gS bm (.slice A L.length c)) w w' ∧ ∀ k, scrS gA gS bm (.slice A2 L'.length c2) k → scrS gA gS bm (.slice A L.length c) k ∨ w.heap.size ≤ k := by
 have hu96 := Tryz.underlying113
 have HI := Az.mk hI
 have HKEY := Az.mk (key_str x.name hn)
 have hup1 : Up w (w.alloc (recO x A' c')) := up_alloc (up_refl _) _
 have HUP1 := Az.mk hup1
 have ha0 : (w.alloc (recO x A' c')).cell? ⟨gA, 0, none⟩ = some (.map (some bm)) := up_cell hup1 (by simp [World.cell?, hI.at_])
 have HMAP1 := Az.mk (hI.map.up hup1)
 obtain ⟨k0, k1, k2, k3, k4, k5, k6, k7⟩ := recBox_new w x A' c'
 clear hI hup1 hn
 by_cases hm : x.name ∈ L
 ·obtain ⟨v, hv⟩ : ∃ v : Int, (L.idxOf x.name : Int) + 1 = v := ⟨_, rfl⟩
  have hpos : (v == 0) = false := bqf (by omega)
  have HM := Az.mk hm
  have HV := Az.mk hv
  have HG : Az (idxG L x.name = some (.int .i64 v)) := ⟨by unfold idxG; rw [if_pos hm, hv]⟩
  clear hm hv
  go_enter Tryz.func162, Tryz.ntmps162
  go_wp2_with (first | (at_lookup; refine wpList_lookVal _ rfl _ _ 178 false rfl 9 3 keyed_str Tryz.underlying178 (zero_i64 _) H bm L.length (idxG L) rfl HMAP1.out x.name HKEY.out rfl (.int .i64 v) (by rw [HG.out]; rfl) ?_))
  go_ret
  exact ⟨L, A, c, by unfold addN; rw [if_pos HM.out], by rw [HV.out]; rfl, HI.out.st (M := fun _ => False) (Chg.of_up HUP1.out) (fun _ _ h => h), Chg.of_up HUP1.out, fun k h => .inl h⟩
 ·have HM := Az.mk hm
  have HG : Az (idxG L x.name = none) := ⟨by unfold idxG; rw [if_neg hm]⟩
  obtain ⟨ie, ze, hie, hze, hsi, hby, hzc⟩ := str_info
  have hbs := fun W => build_str x.name W
  have HLT : Az (gA < w.heap.size ∧ gS < w.heap.size ∧ bm < w.heap.size) := ⟨HI.out.lt gA (.inl rfl), HI.out.lt gS (.inr (.inl rfl)), HI.out.lt bm (.inr (.inr (.inl rfl)))⟩
  have hs1 : (w.alloc (recO x A' c')).cell? ⟨gS, 1, none⟩ = some (.slice A L.length c) := up_cell HUP1.out (by simp [World.cell?, HI.out.box])
  have hup2 : Up w ((w.alloc (recO x A' c')).alloc (.cells #[.string x.name] 9)) := up_alloc HUP1.out _
  have HUP2 := Az.mk hup2
  have HLEN : Az (L.length + 1 ≤ maxLen ∧ (L.length + 1) * 16 ≤ 140737488355328) := ⟨by unfold maxLen; omega⟩
  have HBS : Az (H ≤ w.heap.size) := ⟨by have := HI.out.ne.2.2.1; have := HI.out.ne.1; have := HI.out.map.lt; omega⟩
  have HREC := Az.mk (recBox_new w x A' c')
  have hidx : ((L.length : Int) + 1 == 0) = false := bqf (by omega)
  clear hm hup2
  go_enter Tryz.func162, Tryz.ntmps162
  have HNE : Az (gS < bm ∧ bm < gA ∧ H ≤ gS ∧ ∀ k, (Value.slice A L.length c).ownBlock = some k → gA < k) := ⟨HI.out.ne⟩
  have HNEWS : Az (∀ (j : Nat) (u : Value), [Value.string x.name][j]? = some u → ((w.alloc (recO x A' c')).alloc (.cells #[.string x.name] 9)).cell? ((⟨w.heap.size + 1, 0, none⟩ : Addr).add j) = some u) := ⟨by
   have hb := heap_alloc_new (w.alloc (recO x A' c')) (.cells #[.string x.name] 9)
   rw [show (w.alloc (recO x A' c')).heap.size = w.heap.size + 1 by simp] at hb
   exact World.news_of_block (cs := #[.string x.name]) (t := 9) (fr := (0, 0)) hb⟩
  go_wp2_with (first | (at_lookup; refine wpList_lookVal _ rfl _ _ 178 false rfl 9 3 keyed_str Tryz.underlying178 (zero_i64 _) H bm L.length (idxG L) rfl HMAP1.out x.name HKEY.out rfl (.int .i64 0) (by rw [HG.out]; rfl) ?_) | (at_lookup; refine wpList_lookVal _ rfl _ _ 178 false rfl 9 3 keyed_str Tryz.underlying178 (zero_i64 _) H bm (L.length + 1) _ rfl hmap5 x.name HKEY.out rfl _ (by simp [putV]; rfl) ?_) | (at_mapUpdate; refine wpList_storeVal strV_inj _ rfl _ _ _ 178 rfl 9 3 keyed_str Tryz.underlying178 H bm L.length (idxG L) rfl HMAP4.out (by have := HLEN.out.1; omega) x.name HKEY.out rfl (.int .i64 ((L.length : Int) + 1)) rfl ?_; intro w5 hmap5 hgrow5 hex5; have ha5 : w5.cell? ⟨gA, 0, none⟩ = some (.map (some bm)) := (by have := grown_block hgrow5 HB4.out.1 (by have := HNE.out.1; have := HNE.out.2.1; simp; omega); simp [World.cell?, this]); obtain ⟨r0, r1, r2, r3, r4, r5, r6, r7⟩ := grown_rec hgrow5 HR4.out (by have := HLT.out; simp; omega)) | (at_builtin; refine (wpList_append_lies _ rfl _ _ 48 rfl H 9 ie ze 1 16 Tryz.underlying48 hie hze hsi hby hzc (by decide) (.slice A L.length c) L.length (strs_ L) rfl (own_up HI.out.row HUP2.out) ⟨w.heap.size + 1, 0, none⟩ 1 1 [.string x.name] rfl rfl HNEWS.out (by simp [Value.oneCell']) (by decide) HLEN.out.1 HLEN.out.2 (Nat.le_trans HBS.out HUP2.out.size) _ rfl ?_); intro gg cap w3 hown3 hgrow3 hat3 hlt3; have hb3 := grown_block hgrow3 (up_block HUP2.out HI.out.box) (fun e => by have := HNE.out.2.2.2 gS e.symm; have := HNE.out.1; have := HNE.out.2.1; omega); have ha3 := grown_block hgrow3 (up_block HUP2.out HI.out.at_) (fun e => by have := HNE.out.2.2.2 gA e.symm; omega); have hr3 := grown_rec hgrow3 (HREC.out.keep (up_alloc (up_refl _) (.cells #[.string x.name] 9))) (fun e => by have := (HI.out.row.lt _ e.symm).2; omega); have he3 : w3.cell? ⟨gS, 1, none⟩ = some (.slice A L.length c) := (by simp [World.cell?, hb3]); have hf3 : w3.frozen? ⟨gS, 1, none⟩ = false := (by simp [World.frozen?, hb3]); have HB4 : Az ((w3.setCell ⟨gS, 1, none⟩ (.slice (some ⟨gg, 0, none⟩) (L.length + 1) cap)).heap[gA]? = some (.cells #[.map (some bm)] 178 (0, 0)) ∧ (w3.setCell ⟨gS, 1, none⟩ (.slice (some ⟨gg, 0, none⟩) (L.length + 1) cap)).heap[gS]? = some (.cells #[.pointer none, .slice (some ⟨gg, 0, none⟩) (L.length + 1) cap] 50 (0, 0))) := ⟨⟨by rw [Below.heap_setCell _ _ _ _ (show gA ≠ gS by have := HNE.out.1; have := HNE.out.2.1; omega)]; exact ha3, by rw [box_set hb3]; rfl⟩⟩; have HR4 : Az (RecBox (w3.setCell ⟨gS, 1, none⟩ (.slice (some ⟨gg, 0, none⟩) (L.length + 1) cap)) w.heap.size x A' c') := ⟨recBox_chg hr3 (Chg.of_set (M := fun k => k = gS) w3 _ _ rfl) (by have := HLT.out; omega)⟩; obtain ⟨q0, q1, q2, q3, q4, q5, q6, q7⟩ := HR4.out; have ha4 : (w3.setCell ⟨gS, 1, none⟩ (.slice (some ⟨gg, 0, none⟩) (L.length + 1) cap)).cell? ⟨gA, 0, none⟩ = some (.map (some bm)) := (by simp [World.cell?, HB4.out.1]); have hs4 : (w3.setCell ⟨gS, 1, none⟩ (.slice (some ⟨gg, 0, none⟩) (L.length + 1) cap)).cell? ⟨gS, 1, none⟩ = some (.slice (some ⟨gg, 0, none⟩) (L.length + 1) cap) := (by simp [World.cell?, HB4.out.2]); have HMAP4 : Az (ValMap 9 Value.string H (w3.setCell ⟨gS, 1, none⟩ (.slice (some ⟨gg, 0, none⟩) (L.length + 1) cap)) bm L.length (idxG L)) := ⟨(HI.out.map.up HUP2.out).block (by rw [Below.heap_setCell _ _ _ _ (show bm ≠ gS by have := HNE.out.1; have := HNE.out.2.1; omega), hgrow3.block bm (Nat.lt_of_lt_of_le HLT.out.2.2 HUP2.out.size) (fun e => by have := HNE.out.2.2.2 bm e.symm; have := HNE.out.1; have := HNE.out.2.1; omega)])⟩))
  have hgg : gA < gg := by
   rcases hat3 with h | h
   ·exact HNE.out.2.2.2 gg h
   ·have h1 := HUP2.out.size
    have h2 := HLT.out.1
    rw [h]
    exact Nat.lt_of_lt_of_le h2 h1
  have hn1 := HNE.out.1
  have hn2 := HNE.out.2.1
  have hown5 : w5.ownsRow H 9 1 (.slice (some ⟨gg, 0, none⟩) (L.length + 1) cap) (L.length + 1) (strs_ L ++ [.string x.name]) := own_block hown3 (fun g hg => by
   have hg' : gg = g := by injection hg
   subst hg'
   rw [hgrow5.block gg (by rw [World.size_setCell]; exact hlt3) (by simp; omega), Below.heap_setCell _ _ _ _ (show gg ≠ gS by omega)])
  have hch : Chg (scrS gA gS bm (.slice A L.length c)) w w5 := (((Chg.of_up (M := scrS gA gS bm (.slice A L.length c)) HUP2.out).trans (Chg.of_grown (M := scrS gA gS bm (.slice A L.length c)) hgrow3 (fun k e => .inr (.inr (.inr e)))) (fun k h => .inl h)).trans (Chg.of_set (M := scrS gA gS bm (.slice A L.length c)) w3 _ _ (.inr (.inl rfl))) (fun k h => .inl h)).trans (Chg.of_grown (M := scrS gA gS bm (.slice A L.length c)) hgrow5 (fun k e => by cases e; exact .inr (.inr (.inl rfl)))) (fun k h => .inl h)
  have hlt3' := hat3
  have hi5 : ScrI H gA gS bm (L ++ [x.name]) (some ⟨gg, 0, none⟩) cap w5 := ScrI.snoc HM.out (grown_block hgrow5 HB4.out.1 (by simp; omega)) (grown_block hgrow5 HB4.out.2 (by simp; omega)) hown5 hmap5 ⟨hn1, hn2, HNE.out.2.2.1, fun k hk => by
   have hk' : gg = k := by injection hk
   omega⟩
  go_ret
  refine ⟨L ++ [x.name], some ⟨gg, 0, none⟩, cap, by unfold addN; rw [if_neg HM.out], ?_, hi5, hch, fun k hk => ?_⟩
  ·rw [List.idxOf_append, if_neg HM.out]
   simp
  ·rcases hk with h | h | h | h
   ·exact .inl (.inl h)
   ·exact .inl (.inr (.inl h))
   ·exact .inl (.inr (.inr (.inl h)))
   ·have hk' : gg = k := by injection h
    subst hk'
    rcases hat3 with h | h
    ·exact .inl (.inr (.inr (.inr h)))
    ·right
     rw [h]
     exact HUP2.out.size
def ScrInv (H gA gS bm : Nat) (P : List Rec) (j : Nat) (w : World) (S : Nat → Prop) : Prop := ∃ A c, ScrI H gA gS bm (namesR (P.take j)) A c w ∧ S = scrS gA gS bm (.slice A (namesR (P.take j)).length c)
theorem namesR_len (P : List Rec) : (namesR P).length ≤ P.length := by
 have := onceL_length (P.map (·.name))
 rwa [List.length_map] at this
theorem scr_clos (H gA gS bm : Nat) (P : List Rec) (hn : ∀ x ∈ P, x.name.size ≤ maxLen) (hl : P.length ≤ 4096) : Clos P (scrV P) 162 #[.pointer (some ⟨gA, 0, none⟩), .pointer (some ⟨gS, 0, none⟩)] (ScrInv H gA gS bm P) := by
 refine ⟨?_, ?_, ?_⟩
 ·rintro j w S ⟨A, c, h, rfl⟩ k hk
  exact h.lt k hk
 ·rintro j w w' S M ⟨A, c, h, rfl⟩ hc hM
  exact ⟨A, c, h.st hc hM, rfl⟩
 ·rintro j w S x A' c' ⟨A, c, h, rfl⟩ hx
  have h1 : (namesR (P.take j)).length ≤ 4096 := by
   have := namesR_len (P.take j)
   rw [List.length_take] at this
   omega
  refine (scripts1_calls H gA gS bm (namesR (P.take j)) A c x A' c' w h (hn x (List.mem_of_getElem? hx)) h1).mono ?_
  rintro e w' ⟨L', A2, c2, hL, rfl, hI, hch, hS⟩
  rw [← namesR_take hx] at hL
  subst hL
  have hmem : x.name ∈ namesR (P.take (j + 1)) := by
   rw [namesR_take hx]
   unfold addN
   split
   ·assumption
   ·simp
  refine ⟨?_, _, ⟨A2, c2, hI, rfl⟩, hch, hS⟩
  have : scrV P j = placeN P x.name := by
   unfold scrV
   rw [List.getD, hx]
   rfl
  rw [this, ← placeN_take hmem]
  rfl
theorem scrV_bound (P : List Rec) (hl : P.length ≤ 4096) (j : Nat) (hj : j < P.length) : 0 ≤ scrV P j ∧ scrV P j ≤ 65535 := by
 unfold scrV placeN
 have h1 : P.getD j default ∈ P := by
  rw [List.getD, List.getElem?_eq_getElem hj]
  exact List.getElem_mem hj
 have h2 : (P.getD j default).name ∈ namesR P := onceL_mem _ _ (List.mem_map.2 ⟨_, h1, rfl⟩)
 have h3 := List.idxOf_lt_length_of_mem h2
 have h4 := namesR_len P
 omega
def scrF (T : List Rec) (c : Int) : Int := match findR T 7 c with | some r => placeN (ofKind T 12) r.name | none => 0
theorem scr_val {T : List Rec} (hG : Good T) (c : Int) (h0 : 0 ≤ c) (h1 : c ≤ 1114111) : valR (rngsOf (scrV (ofKind T 12)) 0 (ofKind T 12)) 0 c = scrF T c := by
 have : scrV (ofKind T 12) = valOf (fun x => placeN (ofKind T 12) x.name) (ofKind T 12) := rfl
 rw [this, rngsOf_val, valR_find (fun x => placeN (ofKind T 12) x.name) T 12 7 (by decide) (fam_one hG (.inr (.inr (.inr (.inr (.inl ⟨rfl, rfl⟩)))))) c h0 h1]
 rfl
structure ScrAt (H : Nat) (w : World) (b : Nat) (A : Option Addr) (T : List Rec) : Prop where
 trie : TrieFrom H w b (scrF T)
 names : Cells w A (strs_ (namesR (ofKind T 12)))
 from_ : ∀ a, A = some a → H ≤ a.block
theorem ScrAt.chg {M : Nat → Prop} {H : Nat} {w w' : World} {b : Nat} {A : Option Addr} {T : List Rec} (h : ScrAt H w b A T) (hc : Chg M w w') (hM : ∀ k, M k → k < H ∨ w.heap.size ≤ k) : ScrAt H w' b A T := by
 refine ⟨h.trie.chg hc hM, fun i v hv => ?_, h.from_⟩
 obtain ⟨a, ha, hcell⟩ := h.names i v hv
 have hb := add_block a i
 have hl := cell_lt hcell
 rw [hb] at hl
 have h6 := h.from_ a ha
 refine ⟨a, ha, ?_⟩
 rw [World.cell?_of_block (hc.block (a.add i).block (by rw [hb]; exact hl) (by rw [hb]; intro hm; rcases hM _ hm with e | e <;> omega))]
 exact hcell
end Go.Proofs.YtnohcnneflogjaaGreat.M
namespace Go.Proofs.YtnohcnneflogjaaGreat.M
open Go.RowKit
theorem table_lt {w : World} {A : Option Addr} {T : List Rec} (h : Table w A T) : ∀ ad, A = some ad → 0 < T.length → ad.block < w.heap.size := by
 intro ad hA hl
 obtain ⟨ad', e, A', c', hr, _⟩ := h 0 T[0] (List.getElem?_eq_getElem hl)
 rw [hA] at e
 cases e
 have := cell_lt hr.1
 rwa [add_block] at this
def scrO0 : Obj := .cells #[.pointer none, .slice none 0 0] 50 (0, 0)
def scrW0 (w : World) (bm : Nat) : World := (((w.alloc scrO0).alloc scrO0).alloc (.map #[] 0)).alloc (.cells #[.map (some bm)] 178 (0, 0))
theorem scrW0_ok (w : World) (gS bm gA : Nat) (e1 : w.heap.size + 1 = gS) (e2 : gS + 1 = bm) (e3 : bm + 1 = gA) :
 Up w (scrW0 w bm) ∧ (scrW0 w bm).heap[w.heap.size]? = some scrO0 ∧ ScrI (w.heap.size + 1) gA gS bm [] none 0 (scrW0 w bm) := by
 unfold scrW0
 generalize hw1 : w.alloc scrO0 = w1
 have s1 : w1.heap.size = gS := by rw [← hw1, ← e1]; simp
 have u1 : Up w w1 := by rw [← hw1]; exact up_alloc (up_refl _) _
 have b1 : w1.heap[w.heap.size]? = some scrO0 := by rw [← hw1]; exact heap_alloc_new w _
 have b2 := heap_alloc_new w1 scrO0
 generalize hw2 : w1.alloc scrO0 = w2 at *
 have s2 : w2.heap.size = bm := by rw [← hw2, ← e2, ← s1]; simp
 have u2 : Up w1 w2 := by rw [← hw2]; exact up_alloc (up_refl _) _
 have m3 := ValMap.made (k := 9) (key := Value.string) (H := w.heap.size + 1) w2 (by omega)
 generalize hw3 : w2.alloc (.map #[] 0) = w3 at *
 have s3 : w3.heap.size = gA := by rw [← hw3, ← e3, ← s2]; simp
 have u3 : Up w2 w3 := by rw [← hw3]; exact up_alloc (up_refl _) _
 have b4 := heap_alloc_new w3 (.cells #[.map (some bm)] 178 (0, 0))
 have u4 : Up w3 (w3.alloc (.cells #[.map (some bm)] 178 (0, 0))) := up_alloc (up_refl _) _
 generalize w3.alloc (.cells #[.map (some bm)] 178 (0, 0)) = w4 at *
 rw [s1] at b2
 rw [s3] at b4
 rw [s2] at m3
 have u34 := up_trans u3 u4
 refine ⟨up_trans u1 (up_trans u2 u34), up_block (up_trans u2 u34) b1, b4, up_block u34 b2, World.ownsRow_nil _ _ _ _, (m3.up u4).congr (fun _ => rfl), by omega, by omega, by omega, fun k h => by cases h⟩
theorem scrO_cells {w : World} {g : Nat} {a b : Value} (h : w.heap[g]? = some (.cells #[a, b] 50 (0, 0))) : w.cell? ⟨g, 0, none⟩ = some a ∧ w.cell? ⟨g, 1, none⟩ = some b ∧ w.frozen? ⟨g, 0, none⟩ = false ∧ w.frozen? ⟨g, 1, none⟩ = false := by
 refine ⟨?_, ?_, ?_, ?_⟩ <;> simp [World.cell?, World.frozen?, h]
def scrRet (w : World) (gS g : Nat) (p v : Value) : World := ((w.setCell ⟨gS, 0, none⟩ p).setCell ⟨g, 0, none⟩ p).setCell ⟨g, 1, none⟩ v
theorem scrRet_ok {w : World} {gS g : Nat} (p v : Value) {a b : Value} (hne : g ≠ gS) (h : w.heap[g]? = some (.cells #[a, b] 50 (0, 0))) : (scrRet w gS g p v).heap[g]? = some (.cells #[p, v] 50 (0, 0)) ∧ Chg (fun k => k = gS ∨ k = g) w (scrRet w gS g p v) := by
 unfold scrRet
 refine ⟨?_, ?_⟩
 ·have h1 : (w.setCell ⟨gS, 0, none⟩ p).heap[g]? = some (.cells #[a, b] 50 (0, 0)) := by
   rw [Below.heap_setCell _ _ _ _ hne]
   exact h
  rw [box_set (box_set h1 0 _) 1 _]
  rfl
 ·exact ((Chg.of_set (M := fun k => k = gS ∨ k = g) w _ _ (.inl rfl)).trans (Chg.of_set (M := fun k => k = gS ∨ k = g) _ _ _ (.inr rfl)) (fun _ h => .inl h)).trans (Chg.of_set (M := fun k => k = gS ∨ k = g) _ _ _ (.inr rfl)) (fun _ h => .inl h)
theorem own_cells {w : World} {base : Nat} {e : TypeId} {A : Option Addr} {n m c : Nat} {xs : List Value} {size : Nat} (h : w.ownsRow base e size (.slice A n c) m xs) : Cells w A xs ∧ ∀ a, A = some a → base ≤ a.block := by
 rcases own_cases h with ⟨hv, hn, hx⟩ | ⟨g, cap, hv, hb, _, hc⟩
 ·injection hv with e1 e2 e3
  subst e1
  subst hx
  exact ⟨Cells.nil _ _, fun a h => by cases h⟩
 ·injection hv with e1 e2 e3
  subst e1
  refine ⟨fun i u hu => ⟨⟨g, 0, none⟩, rfl, ?_⟩, fun a h => by cases h; exact hb⟩
  rw [show (⟨g, 0, none⟩ : Addr).add i = ⟨g, i, none⟩ by unfold Addr.add; split <;> simp_all]
  exact hc i u hu
theorem newScripts_calls (A : Option Addr) (c : Nat) (T : List Rec) (w : World) (hT : Table w A T) (hG : Good T) :
 Calls Tryz.prog 125 #[.slice A T.length c] w fun e w' => ∃ b A' c', e = .returned (.agg #[.pointer (some ⟨b, 0, none⟩), .slice A' (namesR (ofKind T 12)).length c']) ∧ ScrAt (w.heap.size + 1) w' b A' T ∧ Up w w' := by
 have hu96 := Tryz.underlying113
 have hmm := @run_makeMap Tryz.prog
 have hmf : ∀ (fn : Fn) (first cap : Array Value) (w : World), (Instr.makeFunc fn first cap).run Tryz.prog w = .ok (.func fn first cap) w := fun _ _ _ _ => rfl
 obtain ⟨hup0, hret0, hI0⟩ := scrW0_ok w (w.heap.size + 1) (w.heap.size + 1 + 1) (w.heap.size + 1 + 1 + 1) rfl rfl rfl
 have HT := Az.mk hT
 have HG := Az.mk hG
 have hP : ∀ x ∈ ofKind T 12, x ∈ T := fun x hx => (List.mem_filter.1 hx).1
 have hPl : (ofKind T 12).length ≤ T.length := List.length_filter_le _ _
 have HC : Az (Clos (ofKind T 12) (scrV (ofKind T 12)) 162 #[.pointer (some ⟨w.heap.size + 1 + 1 + 1, 0, none⟩), .pointer (some ⟨w.heap.size + 1, 0, none⟩)] (ScrInv (w.heap.size + 1) (w.heap.size + 1 + 1 + 1) (w.heap.size + 1) (w.heap.size + 1 + 1) (ofKind T 12))) :=
  ⟨scr_clos _ _ _ _ _ (fun x hx => (hG.wf x (hP x hx)).name) (by have := hG.len; omega)⟩
 have HIN : Az (ScrInv (w.heap.size + 1) (w.heap.size + 1 + 1 + 1) (w.heap.size + 1) (w.heap.size + 1 + 1) (ofKind T 12) 0 (scrW0 w (w.heap.size + 1 + 1)) (scrS (w.heap.size + 1 + 1 + 1) (w.heap.size + 1) (w.heap.size + 1 + 1) nilS)) := ⟨none, 0, hI0, rfl⟩
 have HSA : Az (∀ ad, A = some ad → 0 < T.length → ¬ scrS (w.heap.size + 1 + 1 + 1) (w.heap.size + 1) (w.heap.size + 1 + 1) nilS ad.block) := ⟨fun ad hA hl hs => by
  have := table_lt hT ad hA hl
  rcases hs with h | h | h | h
  ·omega
  ·omega
  ·omega
  ·cases h⟩
 have HAP : Az (Apart (rngsOf (scrV (ofKind T 12)) 0 (ofKind T 12))) := ⟨apart_kind hG 12 (by decide) (by decide) _ (fun j hj => scrV_bound _ (by have := hG.len; omega) j hj)⟩
 have HUP0 := Az.mk hup0
 have HRET0 := Az.mk hret0
 clear hT hG hup0 hret0 hI0 hP hPl
 go_enter Tryz.func125, Tryz.ntmps125
 go_wp2_with (first | (go_at_call 119; (refine (property_scripts A c T 12 (scrV (ofKind T 12)) _ _ _ _ (HT.out.up HUP0.out) HG.out.len HC.out HIN.out HSA.out HAP.out).mono ?_); rintro e w1 ⟨b, S, H, rfl, htr, hH, ⟨A2, c2, hI2, rfl⟩, hSlt, hSold, hch⟩; have htk : (ofKind T 12).take (ofKind T 12).length = ofKind T 12 := List.take_length; have hI2 : ScrI (w.heap.size + 1) (w.heap.size + 1 + 1 + 1) (w.heap.size + 1) (w.heap.size + 1 + 1) (namesR (ofKind T 12)) A2 c2 w1 := (by have := hI2; unfold ofKind at *; rw [htk] at this; exact this); obtain ⟨e0, e1, e2, e3⟩ := scrO_cells hI2.box; have hr1 : w1.heap[w.heap.size]? = some scrO0 := (by rw [hch.block w.heap.size (Nat.lt_of_lt_of_le (Array.getElem?_eq_some_iff.1 HRET0.out).1 (Nat.le_refl _)) (by rintro (h | h | h | h) <;> first | omega | cases h)]; exact HRET0.out); obtain ⟨r0, r1, r2, r3⟩ := scrO_cells hr1))
 change bodyPost _ _ _ _ _ (scrRet w1 (w.heap.size + 1) w.heap.size (.pointer (some ⟨b, 0, none⟩)) (.slice A2 (namesR (ofKind T 12)).length c2))
 obtain ⟨hz1, hz2⟩ := scrRet_ok (gS := w.heap.size + 1) (.pointer (some ⟨b, 0, none⟩)) (.slice A2 (namesR (ofKind T 12)).length c2) (by omega) hr1
 generalize scrRet w1 (w.heap.size + 1) w.heap.size (.pointer (some ⟨b, 0, none⟩)) (.slice A2 (namesR (ofKind T 12)).length c2) = wz at *
 refine bodyPost_ret (results_cell_row rfl _ _ w.heap.size _ _ _ _ rfl hz1 Tryz.underlying50 rfl (by kernel_rfl)) rfl ?_
 have hsz : w.heap.size + 1 + 1 + 1 < (scrW0 w (w.heap.size + 1 + 1)).heap.size := HIN.out.elim (fun A' h => h.elim (fun c' h => (Array.getElem?_eq_some_iff.1 h.1.at_).1))
 have hrow := own_chg hI2.row hz2 (fun k hk => by
  have := hI2.ne.2.2.2 k hk
  rintro (h | h) <;> omega)
 obtain ⟨hc1, hc2⟩ := own_cells hrow
 refine ⟨b, A2, c2, rfl, ⟨?_, hc1, hc2⟩, ?_⟩
 ·refine ((htr.chg hz2 (fun k hk => .inl ?_)).mono (by omega)).congr (fun x h0 h1 => ?_)
  ·rcases hk with h | h <;> omega
  ·exact scr_val HG.out x h0 h1
 ·exact (((Chg.of_up (M := fun k => w.heap.size ≤ k) HUP0.out).trans hch (fun k hk => .inl (by rcases hk with h | h | h | h <;> first | omega | cases h))).trans hz2 (fun k hk => .inl (by rcases hk with h | h <;> omega))).below (Nat.le_refl _) (fun k hk => hk)
end Go.Proofs.YtnohcnneflogjaaGreat.M
