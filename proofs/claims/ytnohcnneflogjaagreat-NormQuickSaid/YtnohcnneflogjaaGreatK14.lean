/- trie.Build, walked. -/
import Derived.Test.YtnohcnneflogjaaGreatK12
import Derived.Deep.RegionLaw
import Derived.BigRegion
import Derived.StillTailTactics
set_option maxHeartbeats 16000000
set_option maxRecDepth 100000
set_option linter.unusedVariables false
set_option linter.unusedSimpArgs false
namespace Go.Proofs.YtnohcnneflogjaaGreat.M
open Go.RowKit
attribute [-go_sem] loadCellsFrom Instr.buildSlice
structure Bld (w : World) (B gt gi gm : Nat) (F : Int → Int) (i : Nat) (vb : Value) : Prop where
 box : TrieBox w gt gi vb
 own : w.ownsRow B 156 64 vb (canonB F i).length (blocksC (canonB F i))
 idx : IdxAt w gi (fun q => if q < i then (idxB F i (blkF F q) : Int) else 0)
 gt_ne : gt ≠ gi
 lt1 : gi < B
 lt2 : gt < B
 lt3 : gm < B
 ne1 : gm ≠ gi
 ne2 : gm ≠ gt
theorem Bld.lt_size {w : World} {B gt gi gm : Nat} {F : Int → Int} {i : Nat} {vb : Value} (h : Bld w B gt gi gm F i vb) : gi < w.heap.size := h.idx.lt
theorem Bld.up {w w' : World} {B gt gi gm : Nat} {F : Int → Int} {i : Nat} {vb : Value} (h : Bld w B gt gi gm F i vb) (hu : Up w w') : Bld w' B gt gi gm F i vb :=
 ⟨(hu.block gt h.box.lt).trans h.box, own_up h.own hu, (hu.block gi h.idx.lt).trans h.idx, h.gt_ne, h.lt1, h.lt2, h.lt3, h.ne1, h.ne2⟩
theorem Bld.idxSet {w : World} {B gt gi gm : Nat} {F : Int → Int} {i : Nat} {vb : Value} {m : Nat} (hb : TrieBox w gt gi vb) (ho : w.ownsRow B 156 64 vb (canonB F (i + 1)).length (blocksC (canonB F (i + 1))))
 (hi : IdxAt w gi (fun q => if q < i then (idxB F i (blkF F q) : Int) else 0)) (h1 : gt ≠ gi) (h2 : gi < B) (h3 : gt < B) (h4 : gm < B) (h5 : gm ≠ gi) (h6 : gm ≠ gt) (hlt : i < 17408) (hm : m = idxB F (i + 1) (blkF F i)) :
 Bld (w.setCell ⟨gi, i, none⟩ (.int .u16 (m : Int))) B gt gi gm F (i + 1) vb := by
 refine ⟨?_, ?_, ?_, h1, h2, h3, h4, h5, h6⟩
 ·unfold TrieBox at *
  rw [Below.heap_setCell _ _ _ _ h1]
  exact hb
 ·refine own_block ho fun g hg => Below.heap_setCell _ _ _ _ (fun e => ?_)
  have := (ho.lt g hg).1
  have e' : g = gi := e
  omega
 ·refine (hi.set i hlt (m : Int)).congr (fun q hq => ?_)
  by_cases hqi : q = i
  ·subst hqi
   rw [if_pos rfl, if_pos (by omega), hm]
  ·rw [if_neg hqi]
   by_cases hlt : q < i
   ·rw [if_pos hlt, if_pos (by omega), idxB_succ (canonB_mem F hlt)]
   ·rw [if_neg hlt, if_neg (by omega)]
theorem Bld.grown {w w' : World} {B gt gi gm : Nat} {F : Int → Int} {i : Nat} {vb : Value} (h : Bld w B gt gi gm F i vb) (hg : w.grownBy w' (some gm)) : Bld w' B gt gi gm F i vb :=
 ⟨(hg.block gt h.box.lt (fun e => by injection e with e; exact h.ne2 e.symm)).trans h.box,
  own_block h.own fun g hg' => hg.block g (h.own.lt g hg').2 (fun e => by injection e with e; have := (h.own.lt g hg').1; have := h.lt3; omega),
  (hg.block gi h.idx.lt (fun e => by injection e with e; exact h.ne1 e.symm)).trans h.idx, h.gt_ne, h.lt1, h.lt2, h.lt3, h.ne1, h.ne2⟩
theorem Bld.grownVb {w w' : World} {B gt gi gm : Nat} {F : Int → Int} {i : Nat} {vb : Value} (h : Bld w B gt gi gm F i vb) (hg : w.grownBy w' vb.ownBlock) : TrieBox w' gt gi vb ∧ IdxAt w' gi (fun q => if q < i then (idxB F i (blkF F q) : Int) else 0) :=
 ⟨(hg.block gt h.box.lt (fun e => by have := (h.own.lt gt e.symm).1; have := h.lt2; omega)).trans h.box,
  (hg.block gi h.idx.lt (fun e => by have := (h.own.lt gi e.symm).1; have := h.lt1; omega)).trans h.idx⟩
theorem blocksC_new (B : List (List Int)) (l : List Int) : blocksC (B ++ [l]) = blocksC B ++ u16s l := by simp [blocksC]
theorem arr64_toList (F : Int → Int) (i : Nat) : (arr64 (fun j => F ((i : Int) * 64 + (j : Int)))).toList = u16s (blkF F i) := by rw [arr64_blk]
theorem TrieBox.setBlocks {w : World} {b gi : Nat} {vb : Value} (h : TrieBox w b gi vb) (v : Value) : TrieBox (w.setCell ⟨b, 2, none⟩ v) b gi v := box_set h 2 v
theorem own_setCell {w : World} {base : Nat} {e : TypeId} {size : Nat} {v : Value} {n : Nat} {xs : List Value} (h : w.ownsRow base e size v n xs) {a : Addr} (ha : a.block < base) (u : Value) : (w.setCell a u).ownsRow base e size v n xs :=
 own_block h fun g hg => Below.heap_setCell _ _ _ _ (fun e => by have := (h.lt g hg).1; omega)
theorem load_cells64 {w : World} {g : Nat} {f : Nat → Int} (h : Arr64At w g f) : (loadCellsFrom ⟨g, 0, none⟩ 0 64 #[]).run Tryz.prog w = .ok (arr64 f) w := by
 have := run_loadCells_list (P := Tryz.prog) w ⟨g, 0, none⟩ (arr64 f).toList (fun j v hv => by
  have hadd : (⟨g, 0, none⟩ : Addr).add j = ⟨g, j, none⟩ := by unfold Addr.add; split <;> simp_all
  rw [hadd, cell_of_row _ _ j _ _ (0, 0) h]
  simpa using hv)
 have h2 : (arr64 f).toList.length = 64 := by rw [Array.length_toList, arr64_size]
 rw [h2] at this
 simpa [loadCells] using this
theorem load_var64 {w : World} {g : Nat} {f : Nat → Int} (h : Arr64At w g f) : (loadVar 156 ⟨g, 0, none⟩).run Tryz.prog w = .ok (.agg (arr64 f)) w := run_loadVar_row w g _ _ _ _ _ h Tryz.underlying156 rfl (by rw [arr64_size]; exact arr64_sz)
theorem arr64_cells (f : Nat → Int) : ∀ u ∈ (arr64 f).toList, u.oneCell' = true := by
 intro u hu
 rw [arr64_list] at hu
 unfold u16s at hu
 obtain ⟨a, _, rfl⟩ := List.mem_map.1 hu
 rfl
theorem step_load64 {ops : Array Oper} {o : Oper} {a : Act} {w : World} {K : Act → World → Prop} {Q : Exit → Act → World → Prop} {E : Prop} (hgd : o.guard = none) (p : Operand) (hop : o.op = Op.load 156 p) (g : Nat) (f : Nat → Int)
 (hp : a.eval p = .pointer (some ⟨g, 0, none⟩)) (h : Arr64At w g f) (hK : K (a.put o.dst (.agg (arr64 f))) w) : if Region.wanted o (yielded ops a.tmps) = true then Oper.wp Tryz.prog o a w K Q else E := by
 have hw : Region.wanted o (yielded ops a.tmps) = true := by simp [Region.wanted, hgd]
 rw [if_pos hw]
 have hrun := load_arr64 h
 unfold Oper.wp
 simp only [execOp, hop, hp, hrun, Result.andThen, Sem.run_bind, Sem.run_pure]
 exact hK
def zeroL : List Int := (List.range 64).map fun _ => 0
theorem blk_zero {L : List Rng} {i : Nat} (h : ∀ c : Int, (i : Int) * 64 ≤ c → c ≤ (i : Int) * 64 + 63 → valR L 0 c = 0) : blkF (valR L 0) i = zeroL := by
 unfold blkF zeroL
 apply List.map_congr_left
 intro j hj
 have := List.mem_range.1 hj
 exact h _ (by omega) (by omega)
theorem valR_out {L : List Rng} {c : Int} {q : Nat} (hO : Ordered L) (h1 : ∀ p r, p < q → L[p]? = some r → r.hi < c) (h2 : ∀ r, L[q]? = some r → c < r.lo) : valR L 0 c = 0 := by
 refine valR_none (fun r hr => ?_)
 obtain ⟨p, hp⟩ := List.mem_iff_getElem?.1 hr
 rw [← Bool.not_eq_true, has_iff]
 by_cases hpq : p < q
 ·have := h1 p r hpq hp
  omega
 ·cases hq : L[q]? with
  | none =>
    rw [List.getElem?_eq_none_iff] at hq
    have := (List.getElem?_eq_some_iff.1 hp).1
    omega
  | some s =>
    have hs := h2 s hq
    by_cases he : p = q
    ·subst he
     rw [hp] at hq
     cases hq
     omega
    ·have := hO.lt (show q < p by omega) hq hp
     have := hO.low s (List.mem_of_getElem? hq)
     omega
theorem mbuild_1 {p : Prop} (h : p := by
 obtain ⟨vb, hbld⟩ := HB.out
 obtain ⟨Av, cv, rfl⟩ := own_any hbld.own
 have HBL := Az.mk hbld
 obtain ⟨n1, G, hn1, hmet⟩ := HM.out
 have HN1 := Az.mk hn1
 have HMET := Az.mk hmet
 have hz := arr64_zero
 have hbs := build_arr64 (fun j => F ((i : Int) * 64 + (j : Int)))
 have hpl2 : p ≤ L.length := HP.out.1
 have HDL : Az ((L.drop p).length = L.length - p) := ⟨List.length_drop⟩
 have HARR : Az (arr64 (fun j => valR (L.drop p) 0 ((i : Int) * 64 + (j : Int))) = arr64 (fun j => F ((i : Int) * 64 + (j : Int)))) := ⟨arr64_congr (fun j _ => by
  rw [← HF.out]
  exact valR_drop (fun s t hs ht => by have := HP.out.2.2 s t hs ht; omega))⟩
 have HBV : Az (∀ a ∈ blkF F i, 0 ≤ a ∧ a ≤ 65535) := ⟨fun a ha => by
  unfold blkF at ha
  obtain ⟨j, _, rfl⟩ := List.mem_map.1 ha
  rw [← HF.out]
  exact valR_bound HO.out (by decide) _⟩
 have HKEY : Az (KeyOk Tryz.prog 156 (blkV (blkF F i))) := ⟨key_u16s (blkF_length F i) HBV.out⟩
 have hcl := canonB_le F i
 have hcl2 : (canonB F i).length ≤ 17408 := by have := HLT.out; omega
 clear hcl hbld hn1 hmet HM HB HLAST
 by_cases hin : blkF F i ∈ canonB F i
 ·have HIN := Az.mk hin
  have hlt := idxB_lt hin
  obtain ⟨m, hm⟩ : ∃ m, idxB F i (blkF F i) = m := ⟨_, rfl⟩
  rw [hm] at hlt
  have HMI := Az.mk hm
  have HG : Az (G (blkV (blkF F i)) = some (.int .u16 (m : Int))) := ⟨by rw [HMET.out.2, if_pos hin, hm]⟩
  have q6 : 0 ≤ (m : Int) := by omega
  have q7 : (m : Int) ≤ 65535 := by omega
  clear hin hlt hm hcl2
  go_wp2_with (first | (go_at_call 216; (with_reducible refine (block_calls' _ _ _ (L.drop p) _ 0 _ ?hr (HO.out.drop p) ?h1 ?h2 (by decide) ?h3 HDL.out).mono ?_); (case hr => exact HRD.out.up HU.out); (case h1 => omega); (case h2 => have := HLT.out; omega); (case h3 => have := HDL.out; omega); rintro e w2 ⟨he, hb2⟩; rw [HARR.out] at he; subst he; have HB2 := Az.mk (HBL.out.up (up_trans hb2 (up_alloc (up_refl _) (.cells (arr64 (fun j => F ((i : Int) * 64 + (j : Int)))) 156)))); have HM2 := Az.mk ((HMET.out.1.up hb2).alloc (.cells (arr64 (fun j => F ((i : Int) * 64 + (j : Int)))) 156)); have HU2 : Az (Up w (w2.alloc (.cells (arr64 (fun j => F ((i : Int) * 64 + (j : Int)))) 156))) := ⟨up_alloc (up_trans HU.out hb2) _⟩; obtain ⟨c0, c1, c2, cf⟩ := HB2.out.box.cells; have hcell := HB2.out.idx.cell i HLT.out; rw [if_neg (Nat.lt_irrefl i)] at hcell; have hfr := HB2.out.idx.frozen i) | (refine wpList_store64_new _ rfl _ _ rfl _ (fun j => F ((i : Int) * 64 + (j : Int))) rfl rfl ?_) | (refine wpList_load64 _ rfl _ rfl w2.heap.size (fun j => F ((i : Int) * 64 + (j : Int))) rfl (heap_alloc_new w2 _) ?_) | (at_lookup; refine wpList_look _ rfl _ _ 234 true rfl 156 155 keyed_arr64 Tryz.underlying234 (zero_u16 _) (n0 + 1 + 1) n1 G rfl HM2.out (blkV (blkF F i)) ?hx HKEY.out (.tuple #[.int .u16 (m : Int), .bool true]) ?hr ?_; (case hx => exact blkV_arr F i); (case hr => rw [HG.out]; rfl)))
  have hkeep := canonB_succ_mem HIN.out
  have HNEW : Az (Bld ((w2.alloc (.cells (arr64 (fun j => F ((i : Int) * 64 + (j : Int)))) 156)).setCell ⟨n0, i, none⟩ (.int .u16 (m : Int))) (n0 + 3) (n0 + 1) n0 (n0 + 1 + 1) F (i + 1) (.slice Av (canonB F i).length cv)) := ⟨Bld.idxSet HB2.out.box (by rw [hkeep]; exact HB2.out.own) HB2.out.idx HBL.out.gt_ne HBL.out.lt1 HBL.out.lt2 HBL.out.lt3 HBL.out.ne1 HBL.out.ne2 HLT.out (by rw [idxB_succ HIN.out, HMI.out])⟩
  have HMNEW : Az (MetAt ((w2.alloc (.cells (arr64 (fun j => F ((i : Int) * 64 + (j : Int)))) 156)).setCell ⟨n0, i, none⟩ (.int .u16 (m : Int))) (n0 + 1 + 1) n1 F (i + 1) G) := ⟨HMET.out.keep HIN.out (HM2.out.setCell (by have := HBL.out.ne1; exact this) _)⟩
  go_roundg k
  case measure => have := HI.out; omega
  case rel => exact ⟨i + 1, p, (m : Int), rfl, rfl, rfl, ⟨by have := HI.out; omega⟩, ⟨HP.out.1, fun s t hs ht => by have := HP.out.2.2 s t hs ht; omega⟩, ⟨.inr ⟨m, rfl, by rw [hkeep, ← HZ.out]; exact HIN.out, by rw [← HZ.out, idxB_succ HIN.out, HMI.out]⟩⟩, ⟨up_setCell HU2.out HN0.out _⟩, ⟨_, HNEW.out⟩, ⟨n1, G, by have := HN1.out; omega, HMNEW.out⟩⟩
 ·have HIN := Az.mk hin
  have HG : Az (G (blkV (blkF F i)) = none) := ⟨by rw [HMET.out.2, if_neg hin]⟩
  have q6 : 0 ≤ ((canonB F i).length : Int) := by omega
  have q7 : ((canonB F i).length : Int) ≤ 65535 := by omega
  have HNM : Az (n1 < maxLen) := ⟨by have := HN1.out; have := HLT.out; unfold maxLen; omega⟩
  clear hin hcl2
  go_wp2_with (first | (go_at_call 216; (with_reducible refine (block_calls' _ _ _ (L.drop p) _ 0 _ ?hr (HO.out.drop p) ?h1 ?h2 (by decide) ?h3 HDL.out).mono ?_); (case hr => exact HRD.out.up HU.out); (case h1 => omega); (case h2 => have := HLT.out; omega); (case h3 => have := HDL.out; omega); rintro e w2 ⟨he, hb2⟩; rw [HARR.out] at he; subst he; have HB2 := Az.mk (HBL.out.up (up_trans hb2 (up_alloc (up_refl _) (.cells (arr64 (fun j => F ((i : Int) * 64 + (j : Int)))) 156)))); have HM2 := Az.mk ((HMET.out.1.up hb2).alloc (.cells (arr64 (fun j => F ((i : Int) * 64 + (j : Int)))) 156)); have HU2 : Az (Up w (w2.alloc (.cells (arr64 (fun j => F ((i : Int) * 64 + (j : Int)))) 156))) := ⟨up_alloc (up_trans HU.out hb2) _⟩; obtain ⟨c0, c1, c2, cf⟩ := HB2.out.box.cells; have hcell := HB2.out.idx.cell i HLT.out; rw [if_neg (Nat.lt_irrefl i)] at hcell; have hfr := HB2.out.idx.frozen i) | (refine wpList_store64_new _ rfl _ _ rfl _ (fun j => F ((i : Int) * 64 + (j : Int))) rfl rfl ?_) | (refine wpList_load64 _ rfl _ rfl w2.heap.size (fun j => F ((i : Int) * 64 + (j : Int))) rfl (heap_alloc_new w2 _) ?_) | (at_lookup; refine wpList_look _ rfl _ _ 234 true rfl 156 155 keyed_arr64 Tryz.underlying234 (zero_u16 _) (n0 + 1 + 1) n1 G rfl HM2.out (blkV (blkF F i)) ?hx HKEY.out (.tuple #[.int .u16 0, .bool false]) ?hr ?_; (case hx => exact blkV_arr F i); (case hr => rw [HG.out]; rfl)) | (at_mapUpdate; refine wpList_store _ rfl _ _ _ 234 rfl 156 155 keyed_arr64 Tryz.underlying234 (n0 + 1 + 1) n1 G rfl HM2.out HNM.out (blkV (blkF F i)) (.int .u16 ((canonB F i).length : Int)) ?hx rfl HKEY.out ?_; (case hx => exact blkV_arr F i); intro w4 hmap4 hgrow4))
  have HB4 := Az.mk (HB2.out.grown hgrow4)
  have HA4 : Az (Arr64At w4 w2.heap.size (fun j => F ((i : Int) * 64 + (j : Int)))) := ⟨by
   refine (hgrow4.block _ (by simp) (fun e => ?_)).trans (heap_alloc_new w2 _)
   have h1 := HM2.out.lt
   have h2 := (HMET.out.1.up hb2).lt
   injection e with e
   omega⟩
  clear c0 c1 c2 cf hcell hfr
  obtain ⟨c0, c1, c2, cf⟩ := HB4.out.box.cells
  obtain ⟨d0, d1, d2, df⟩ := (HB4.out.up (up_alloc (up_refl _) (.cells (arr64 (fun j => F ((i : Int) * 64 + (j : Int)))) 156))).box.cells
  have hlc1 := load_cells64 HA4.out
  have hlc2 : (loadCellsFrom ⟨w2.heap.size, 0, none⟩ 0 64 #[]).run Tryz.prog w4.drew = .ok (arr64 (fun j => F ((i : Int) * 64 + (j : Int)))) w4.drew := load_cells64 (w := w4.drew) HA4.out
  have HUP4 : Az (Up w w4) := ⟨HU2.out.grown hgrow4 HU2.out.size (fun k hk => by cases hk; have := HN0.out; omega)⟩
  obtain ⟨ie, hie, hze, hsi, hby⟩ := arr64I
  have HNL : Az ((canonB F i).length + 1 ≤ maxLen ∧ ((canonB F i).length + 1) * 128 ≤ 140737488355328) := ⟨by unfold maxLen; omega⟩
  have HB4S : Az (n0 + 3 ≤ w4.heap.size) := ⟨by
   have h1 := HM2.out.lt
   have h2 := hgrow4.size
   have h3 : (w2.alloc (.cells (arr64 (fun j => F ((i : Int) * 64 + (j : Int)))) 156)).heap.size = w2.heap.size + 1 := by simp
   omega⟩
  go_region_law (first | (refine step_append_lies _ (by rfl) _ _ _ (by rfl) (n0 + 3) 156 ie _ 64 128 Tryz.underlying152 hie hze hsi hby (arr64_size _) (by omega) (.slice Av (canonB F i).length cv) (canonB F i).length (blocksC (canonB F i)) (by rfl) ((HB4.out.own.alloc _).drew) ⟨w4.heap.size, 0, none⟩ 1 1 (arr64 (fun j => F ((i : Int) * 64 + (j : Int)))).toList (by rfl) (by rw [Array.length_toList, arr64_size]) (World.news_of_block (cs := arr64 (fun j => F ((i : Int) * 64 + (j : Int)))) (t := 156) (fr := (0, 0)) (heap_alloc_new w4 _)) (arr64_cells _) (by omega) HNL.out.1 HNL.out.2 (Nat.le_trans HB4S.out (by simp)) (w4.heap.size + 1) (by simp) ?_; intro gg cap w5 hown5 hgrow5 hat5 hlt5; have hbx := Bld.grownVb ((HB4.out.up (up_alloc (up_refl _) (.cells (arr64 (fun j => F ((i : Int) * 64 + (j : Int)))) 156))).up (up_drew (up_refl _))) hgrow5; have HBX := Az.mk hbx; have HUP5 : Az (Up w w5) := ⟨(up_drew (up_alloc HUP4.out (.cells (arr64 (fun j => F ((i : Int) * 64 + (j : Int)))) 156))).grown hgrow5 (up_drew (up_alloc HUP4.out (.cells (arr64 (fun j => F ((i : Int) * 64 + (j : Int)))) 156))).size (fun k hk => by have h1 := (HB4.out.own.lt k hk).1; have h2 := HN0.out; omega)⟩; obtain ⟨e0, e1, e2, ef⟩ := hbx.1.cells; clear hbx))
  all_goals
   have HB6 := Az.mk (HBX.out.1.setBlocks (.slice (some ⟨gg, 0, none⟩) ((canonB F i).length + 1) cap))
   have HI6 : Az (IdxAt (w5.setCell ⟨n0 + 1, 2, none⟩ (.slice (some ⟨gg, 0, none⟩) ((canonB F i).length + 1) cap)) n0 (fun q => if q < i then (idxB F i (blkF F q) : Int) else 0)) := ⟨(Below.heap_setCell _ _ _ _ (show n0 ≠ n0 + 1 by omega)).trans HBX.out.2⟩
   clear c0 c1 c2 cf d0 d1 d2 df e0 e1 e2 ef
   obtain ⟨c0, c1, c2, cf⟩ := HB6.out.cells
   have hcell := HI6.out.cell i HLT.out
   rw [if_neg (Nat.lt_irrefl i)] at hcell
   have hfr := HI6.out.frozen i
   go_wp2
   have hnew := canonB_succ_new HIN.out
   have hown6 : (w5.setCell ⟨n0 + 1, 2, none⟩ (.slice (some ⟨gg, 0, none⟩) ((canonB F i).length + 1) cap)).ownsRow (n0 + 3) 156 64 (.slice (some ⟨gg, 0, none⟩) ((canonB F i).length + 1) cap) (canonB F (i + 1)).length (blocksC (canonB F (i + 1))) := by
    rw [hnew, blocksC_new, List.length_append, List.length_singleton, ← arr64_toList]
    exact own_setCell hown5 (show n0 + 1 < n0 + 3 by omega) _
   have HNEW : Az (Bld ((w5.setCell ⟨n0 + 1, 2, none⟩ (.slice (some ⟨gg, 0, none⟩) ((canonB F i).length + 1) cap)).setCell ⟨n0, i, none⟩ (.int .u16 ((canonB F i).length : Int))) (n0 + 3) (n0 + 1) n0 (n0 + 1 + 1) F (i + 1) (.slice (some ⟨gg, 0, none⟩) ((canonB F i).length + 1) cap)) := ⟨Bld.idxSet HB6.out hown6 HI6.out HBL.out.gt_ne HBL.out.lt1 HBL.out.lt2 HBL.out.lt3 HBL.out.ne1 HBL.out.ne2 HLT.out (idxB_new HIN.out).symm⟩
   have HMNEW : Az (MetAt ((w5.setCell ⟨n0 + 1, 2, none⟩ (.slice (some ⟨gg, 0, none⟩) ((canonB F i).length + 1) cap)).setCell ⟨n0, i, none⟩ (.int .u16 ((canonB F i).length : Int))) (n0 + 1 + 1) (n1 + 1) F (i + 1) (putF G (blkV (blkF F i)) (.int .u16 ((canonB F i).length : Int)))) := ⟨HMET.out.step HIN.out ((((hmap4.alloc _).drew.grown hgrow5 (fun e => by have h1 := (HB4.out.own.lt _ e.symm).1; omega)).setCell (show n0 + 1 + 1 ≠ n0 + 1 by omega) _).setCell (show n0 + 1 + 1 ≠ n0 by omega) _)⟩
   go_roundg k
   case measure => have := HI.out; omega
   case rel => exact ⟨i + 1, p, ((canonB F i).length : Int), rfl, rfl, rfl, ⟨by have := HI.out; omega⟩, ⟨HP.out.1, fun s t hs ht => by have := HP.out.2.2 s t hs ht; omega⟩, ⟨.inr ⟨(canonB F i).length, rfl, by rw [hnew, ← HZ.out]; simp, by rw [← HZ.out]; exact (idxB_new HIN.out).symm⟩⟩, ⟨up_setCell (up_setCell HUP5.out (Nat.le_trans HN0.out (Nat.le_succ _)) _) HN0.out _⟩, ⟨_, HNEW.out⟩, ⟨n1 + 1, _, by have := HN1.out; omega, HMNEW.out⟩⟩) : p := h
theorem mbuild_2 {p : Prop} (h : p := by
 have hmlt : m < 17408 := by
  have h1 := idxB_lt hm1
  have h2 := canonB_le F i
  have h3 := HLT.out
  omega
 have q6 : 0 ≤ (m : Int) := by omega
 have q7 : (m : Int) ≤ 65535 := by omega
 have HM1 := Az.mk hm1
 have HM2 := Az.mk hm2
 obtain ⟨vb, hbld⟩ := HB.out
 have HBL := Az.mk hbld
 obtain ⟨c0, c1, c2, cf⟩ := hbld.box.cells
 have hcell := hbld.idx.cell i HLT.out
 rw [if_neg (Nat.lt_irrefl i)] at hcell
 have hfr := hbld.idx.frozen i
 obtain ⟨n1, G, hn1, hmet⟩ := HM.out
 have HN1 := Az.mk hn1
 have HMET := Az.mk hmet
 clear hmlt hm1 hm2 hbld hn1 hmet HM HB
 go_wp2
 have hin : blkF F i ∈ canonB F i := by rw [HZ.out]; exact HM1.out
 have hkeep := canonB_succ_mem hin
 have HNEW : Az (Bld (wr.setCell ⟨n0, i, none⟩ (.int .u16 (m : Int))) (n0 + 3) (n0 + 1) n0 (n0 + 1 + 1) F (i + 1) vb) := ⟨Bld.idxSet HBL.out.box (by rw [hkeep]; exact HBL.out.own) HBL.out.idx HBL.out.gt_ne HBL.out.lt1 HBL.out.lt2 HBL.out.lt3 HBL.out.ne1 HBL.out.ne2 HLT.out (by rw [HM2.out, idxB_succ hin, HZ.out])⟩
 have HMNEW : Az (MetAt (wr.setCell ⟨n0, i, none⟩ (.int .u16 (m : Int))) (n0 + 1 + 1) n1 F (i + 1) G) := ⟨HMET.out.keep hin (HMET.out.1.setCell (by have := HBL.out.ne1; exact this) _)⟩
 have HLN : Az (zeroL ∈ canonB F (i + 1) ∧ m = idxB F (i + 1) zeroL) := ⟨by rw [hkeep]; exact HM1.out, by rw [idxB_succ HM1.out]; exact HM2.out⟩
 clear hin hkeep
 go_roundg k
 case measure => have := HI.out; omega
 case rel => exact ⟨i + 1, p, (m : Int), rfl, rfl, rfl, ⟨by have := HI.out; omega⟩, ⟨HP.out.1, fun s t hs ht => by have := HP.out.2.2 s t hs ht; omega⟩, ⟨.inr ⟨m, rfl, HLN.out.1, HLN.out.2⟩⟩, ⟨up_setCell HU.out HN0.out _⟩, ⟨vb, HNEW.out⟩, ⟨n1, G, by have := HN1.out; omega, HMNEW.out⟩⟩) : p := h
theorem Build_calls (A : Option Addr) (c : Nat) (L : List Rng) (w : World) (hL : Rngs w A L) (hO : Ordered L) (hlen : L.length ≤ 1073741824) (hc : L.length ≤ c) (hn : A = none → c = 0) :
 Calls Tryz.prog 189 #[.slice A L.length c, .int .i64 0] w fun e w' => ∃ b, e = .returned (.tuple #[.pointer (some ⟨b, 0, none⟩), .int .i64 0, .int .i64 0]) ∧ TrieFrom w.heap.size w' b (valR L 0) ∧ Up w w' := by
 have hu157 := Tryz.underlying175
 have hu107 := Tryz.underlying154
 have hmk := make_idx
 have hmm := @run_makeMap Tryz.prog
 have HL := Az.mk hL
 have HO := Az.mk hO
 clear hL hO
 go_enter Tryz.func189, Tryz.ntmps189
 go_wp2_with (first | (go_at_call 215; (with_reducible refine (twrong_calls A c L _ HL.out HO.out hlen).mono ?_); rintro e w1 ⟨rfl, hb1⟩))
 have HU0 : Az (Up w (((w1.alloc (.cells (arrN 17408 fun x => 0) 155)).alloc (.cells #[.int .i64 0, .slice (some ⟨w1.heap.size, 0, none⟩) 17408 17408, .slice none 0 0] 154)).alloc (.map #[] 0))) := ⟨up_alloc (up_alloc (up_alloc hb1 _) _) _⟩
 have HB0 : Az (Bld (((w1.alloc (.cells (arrN 17408 fun x => 0) 155)).alloc (.cells #[.int .i64 0, .slice (some ⟨w1.heap.size, 0, none⟩) 17408 17408, .slice none 0 0] 154)).alloc (.map #[] 0)) (w1.heap.size + 3) (w1.heap.size + 1) w1.heap.size (w1.heap.size + 1 + 1) (valR L 0) 0 nilS) := ⟨by
  have h1 : IdxAt (w1.alloc (.cells (arrN 17408 fun x => 0) 155)) w1.heap.size (fun _ => 0) := heap_alloc_new w1 _
  have h2 : TrieBox ((w1.alloc (.cells (arrN 17408 fun x => 0) 155)).alloc (.cells #[.int .i64 0, .slice (some ⟨w1.heap.size, 0, none⟩) 17408 17408, .slice none 0 0] 154)) (w1.heap.size + 1) w1.heap.size nilS := by
   have := heap_alloc_new (w1.alloc (.cells (arrN 17408 fun x => 0) 155)) (.cells #[.int .i64 0, .slice (some ⟨w1.heap.size, 0, none⟩) 17408 17408, .slice none 0 0] 154)
   rwa [show (w1.alloc (.cells (arrN 17408 fun x => 0) 155)).heap.size = w1.heap.size + 1 by simp] at this
  have hu2 : Up (w1.alloc (.cells (arrN 17408 fun x => 0) 155)) (((w1.alloc (.cells (arrN 17408 fun x => 0) 155)).alloc (.cells #[.int .i64 0, .slice (some ⟨w1.heap.size, 0, none⟩) 17408 17408, .slice none 0 0] 154)).alloc (.map #[] 0)) := up_alloc (up_alloc (up_refl _) _) _
  have hu3 : Up ((w1.alloc (.cells (arrN 17408 fun x => 0) 155)).alloc (.cells #[.int .i64 0, .slice (some ⟨w1.heap.size, 0, none⟩) 17408 17408, .slice none 0 0] 154)) (((w1.alloc (.cells (arrN 17408 fun x => 0) 155)).alloc (.cells #[.int .i64 0, .slice (some ⟨w1.heap.size, 0, none⟩) 17408 17408, .slice none 0 0] 154)).alloc (.map #[] 0)) := up_alloc (up_refl _) _
  exact ⟨(hu3.block _ h2.lt).trans h2, World.ownsRow_nil _ _ _ _, IdxAt.congr ((hu2.block _ h1.lt).trans h1) (fun q _ => by rw [if_neg (by omega)]), by omega, by omega, by omega, by omega, by omega, by omega⟩⟩
 have HM0 : Az (MetAt (((w1.alloc (.cells (arrN 17408 fun x => 0) 155)).alloc (.cells #[.int .i64 0, .slice (some ⟨w1.heap.size, 0, none⟩) 17408 17408, .slice none 0 0] 154)).alloc (.map #[] 0)) (w1.heap.size + 1 + 1) 0 (valR L 0) 0 (fun _ => none)) := ⟨by
  have := MapIs.made Tryz.prog 156 ((w1.alloc (.cells (arrN 17408 fun x => 0) 155)).alloc (.cells #[.int .i64 0, .slice (some ⟨w1.heap.size, 0, none⟩) 17408 17408, .slice none 0 0] 154))
  rw [show ((w1.alloc (.cells (arrN 17408 fun x => 0) 155)).alloc (.cells #[.int .i64 0, .slice (some ⟨w1.heap.size, 0, none⟩) 17408 17408, .slice none 0 0] 154)).heap.size = w1.heap.size + 1 + 1 by simp] at this
  exact MetAt.start this⟩
 have HN0 : Az (w.heap.size ≤ w1.heap.size) := ⟨hb1.size⟩
 clear hb1
 generalize (((w1.alloc (.cells (arrN 17408 fun x => 0) 155)).alloc (.cells #[.int .i64 0, .slice (some ⟨w1.heap.size, 0, none⟩) 17408 17408, .slice none 0 0] 154)).alloc (.map #[] 0)) = W at HU0 HB0 HM0
 generalize w1.heap.size = n0 at HB0 HM0 HN0
 obtain ⟨F, hF⟩ : ∃ F, valR L 0 = F := ⟨_, rfl⟩
 have HF := Az.mk hF
 rw [hF] at HB0 HM0
 clear hF hmk hmm
 go_loopg [11, 12, 35] 17408 (fun k v11 v12 v35 w' => ∃ (i q : Nat) (last : Int), v35 = .int .i64 i ∧ v11 = .int .i64 last ∧ v12 = .int .i64 q ∧ Az (i + k = 17408) ∧ Az (q ≤ L.length ∧ ∀ p r, p < q → L[p]? = some r → r.hi < (i : Int) * 64) ∧ Az (last = -1 ∨ ∃ m : Nat, last = m ∧ zeroL ∈ canonB F i ∧ m = idxB F i zeroL) ∧ Az (Up w w') ∧ Az (∃ vb, Bld w' (n0 + 3) (n0 + 1) n0 (n0 + 1 + 1) F i vb) ∧ Az (∃ n G, n ≤ i ∧ MetAt w' (n0 + 1 + 1) n F i G))
 case atStart => exact ⟨0, 0, -1, rfl, rfl, rfl, ⟨rfl⟩, ⟨Nat.zero_le _, fun p r hp => absurd hp (Nat.not_lt_zero _)⟩, ⟨.inl rfl⟩, HU0, ⟨_, HB0.out⟩, ⟨0, _, Nat.le_refl _, HM0.out⟩⟩
 case round =>
  clear HU0 HB0 HM0
  obtain ⟨i, q, last, rfl, rfl, rfl, HI, HQ, HLAST, HU, HB, HM⟩ := hrel
  have hi := HI.out
  cases gk with
  | zero =>
    have hlt : decide ((i : Int) < 17408) = false := dFz (by omega)
    have hln : decide (i < 17408) = false := dFz (by omega)
    have hi' : i = 17408 := by omega
    have HE := Az.mk hi'
    clear hi hi'
    go_wp2
    go_ret3
    have he := HE.out
    subst he
    obtain ⟨vb, hb⟩ := HB.out
    refine ⟨n0 + 1, rfl, ⟨n0, vb, n0 + 3, hb.box, ?_, ?_, Nat.le_trans HN0.out (Nat.le_succ _), HN0.out, Nat.le_trans HN0.out (by omega)⟩, HU.out⟩
    ·rw [HF.out]
     exact hb.idx.congr (fun q hq => if_pos hq)
    ·rw [HF.out]
     exact hb.own
  | succ k =>
    have hlt : decide ((i : Int) < 17408) = true := dTz (by omega)
    have hln : decide (i < 17408) = true := dTz (by omega)
    have p1 : 0 ≤ (i : Int) := by omega
    have p2 : (i : Int) < 17408 := by omega
    have HLT : Az (i < 17408) := ⟨by omega⟩
    clear hi
    go_wp2
    obtain ⟨wo, rfl⟩ : ∃ wo : World, wo = wr := ⟨_, rfl⟩
    go_loopg [12] (L.length - q) (fun k v12 w' => ∃ p : Nat, v12 = .int .i64 p ∧ Az (p ≤ L.length ∧ L.length - p = k ∧ ∀ s r, s < p → L[s]? = some r → r.hi < (i : Int) * 64) ∧ Az (w' = wo))
    case atStart => exact ⟨q, rfl, ⟨HQ.out.1, rfl, HQ.out.2⟩, ⟨rfl⟩⟩
    case round =>
     clear HQ
     obtain ⟨p, rfl, HP, HW⟩ := hrel
     have hw := HW.out
     subst hw
     clear HW
     have hp := HP.out.1
     have hpk := HP.out.2.1
     by_cases hpl : p < L.length
     ·have s1 : decide ((p : Int) < (L.length : Int)) = true := dTz (by omega)
      have s2 : decide (p < L.length) = true := dTz (by omega)
      have s3 : ((p : Int) == (L.length : Int)) = false := bqf (by omega)
      have s4 : (p == L.length) = false := bqf (by omega)
      have p3 : 0 ≤ (p : Int) := by omega
      have p4 : (p : Int) < (L.length : Int) := by omega
      have hr : L[p]? = some L[p] := List.getElem?_eq_getElem (by omega)
      obtain ⟨r, hrr⟩ : ∃ r, L[p]'(by omega) = r := ⟨_, rfl⟩
      rw [hrr] at hr
      obtain ⟨ad, hAd, hrng⟩ := HL.out p r hr
      subst hAd
      obtain ⟨g0, g1, g2⟩ := hrng.up HU.out
      have HR := Az.mk hr
      clear hr hrr hrng
      by_cases hh : r.hi < (i : Int) * 64
      ·have s5 : decide (r.hi < (i : Int) * 64) = true := dTz hh
       have HH := Az.mk hh
       obtain ⟨k', rfl⟩ : ∃ k', gk = k' + 1 := ⟨gk - 1, by omega⟩
       have HPK := Az.mk hpk
       clear hh hpk hp hpl
       go_wp2
       go_roundg k'
       case measure => omega
       case rel => exact ⟨p + 1, rfl, ⟨by have := HP.out; omega, by have := HPK.out; omega, fun s t hs ht => by
        by_cases hsp : s = p
        ·subst hsp
         rw [HR.out] at ht
         cases ht
         exact HH.out
        ·exact HP.out.2.2 s t (by omega) ht⟩, ⟨rfl⟩⟩
      ·have s5 : decide (r.hi < (i : Int) * 64) = false := dFz hh
       have HH := Az.mk hh
       have HPL := Az.mk hpl
       clear hh hpk hp hpl
       by_cases ho : (i : Int) * 64 + 64 - 1 < r.lo
       ·have s6 : decide ((i : Int) * 64 + 64 - 1 < r.lo) = true := dTz ho
        have HZ : Az (blkF F i = zeroL) := ⟨by
         rw [← HF.out]
         refine blk_zero (fun x h1 h2 => valR_out HO.out (q := p) (fun s t hs ht => by have := HP.out.2.2 s t hs ht; omega) (fun t ht => by
          rw [HR.out] at ht
          cases ht
          omega))⟩
        clear ho
        rcases HLAST.out with hl | ⟨m, hl, hm1, hm2⟩
        ·subst hl
         have s7 : decide ((0 : Int) ≤ -1) = false := by decide
         have HRD : Az (Rngs w (some (ad.add (p * 3))) (L.drop p)) := ⟨HL.out.drop p⟩
         have hcp : ¬ c = p := by have := HPL.out; omega
         exact mbuild_1
        ·subst hl
         have s7 : decide (0 ≤ (m : Int)) = true := dTz (by omega)
         exact mbuild_2
       ·have s6 : decide ((i : Int) * 64 + 64 - 1 < r.lo) = false := dFz ho
        clear ho
        have HRD : Az (Rngs w (some (ad.add (p * 3))) (L.drop p)) := ⟨HL.out.drop p⟩
        have hcp : ¬ c = p := by have := HPL.out; omega
        have HLASTN : Az (last = -1 ∨ ∃ m : Nat, last = m ∧ zeroL ∈ canonB F (i + 1) ∧ m = idxB F (i + 1) zeroL) := ⟨by
         rcases HLAST.out with h | ⟨m, h1, h2, h3⟩
         ·exact .inl h
         ·exact .inr ⟨m, h1, (idxB_keep F (Nat.le_succ i) h2).1, by rw [(idxB_keep F (Nat.le_succ i) h2).2]; exact h3⟩⟩
        obtain ⟨vb, hbld⟩ := HB.out
        obtain ⟨Av, cv, rfl⟩ := own_any hbld.own
        have HBL := Az.mk hbld
        obtain ⟨n1, G, hn1, hmet⟩ := HM.out
        have HN1 := Az.mk hn1
        have HMET := Az.mk hmet
        have hz := arr64_zero
        have hbs := build_arr64 (fun j => F ((i : Int) * 64 + (j : Int)))
        have hpl2 : p ≤ L.length := HP.out.1
        have HDL : Az ((L.drop p).length = L.length - p) := ⟨List.length_drop⟩
        have HARR : Az (arr64 (fun j => valR (L.drop p) 0 ((i : Int) * 64 + (j : Int))) = arr64 (fun j => F ((i : Int) * 64 + (j : Int)))) := ⟨arr64_congr (fun j _ => by
         rw [← HF.out]
         exact valR_drop (fun s t hs ht => by have := HP.out.2.2 s t hs ht; omega))⟩
        have HBV : Az (∀ a ∈ blkF F i, 0 ≤ a ∧ a ≤ 65535) := ⟨fun a ha => by
         unfold blkF at ha
         obtain ⟨j, _, rfl⟩ := List.mem_map.1 ha
         rw [← HF.out]
         exact valR_bound HO.out (by decide) _⟩
        have HKEY : Az (KeyOk Tryz.prog 156 (blkV (blkF F i))) := ⟨key_u16s (blkF_length F i) HBV.out⟩
        have hcl := canonB_le F i
        have hcl2 : (canonB F i).length ≤ 17408 := by have := HLT.out; omega
        clear hcl hbld hn1 hmet HM HB HLAST
        by_cases hin : blkF F i ∈ canonB F i
        ·have HIN := Az.mk hin
         have hlt := idxB_lt hin
         obtain ⟨m, hm⟩ : ∃ m, idxB F i (blkF F i) = m := ⟨_, rfl⟩
         rw [hm] at hlt
         have HMI := Az.mk hm
         have HG : Az (G (blkV (blkF F i)) = some (.int .u16 (m : Int))) := ⟨by rw [HMET.out.2, if_pos hin, hm]⟩
         have q6 : 0 ≤ (m : Int) := by omega
         have q7 : (m : Int) ≤ 65535 := by omega
         clear hin hlt hm hcl2
         go_wp2_with (first | (go_at_call 216; (with_reducible refine (block_calls' _ _ _ (L.drop p) _ 0 _ ?hr (HO.out.drop p) ?h1 ?h2 (by decide) ?h3 HDL.out).mono ?_); (case hr => exact HRD.out.up HU.out); (case h1 => omega); (case h2 => have := HLT.out; omega); (case h3 => have := HDL.out; omega); rintro e w2 ⟨he, hb2⟩; rw [HARR.out] at he; subst he; have HB2 := Az.mk (HBL.out.up (up_trans hb2 (up_alloc (up_refl _) (.cells (arr64 (fun j => F ((i : Int) * 64 + (j : Int)))) 156)))); have HM2 := Az.mk ((HMET.out.1.up hb2).alloc (.cells (arr64 (fun j => F ((i : Int) * 64 + (j : Int)))) 156)); have HU2 : Az (Up w (w2.alloc (.cells (arr64 (fun j => F ((i : Int) * 64 + (j : Int)))) 156))) := ⟨up_alloc (up_trans HU.out hb2) _⟩; obtain ⟨c0, c1, c2, cf⟩ := HB2.out.box.cells; have hcell := HB2.out.idx.cell i HLT.out; rw [if_neg (Nat.lt_irrefl i)] at hcell; have hfr := HB2.out.idx.frozen i) | (refine wpList_store64_new _ rfl _ _ rfl _ (fun j => F ((i : Int) * 64 + (j : Int))) rfl rfl ?_) | (refine wpList_load64 _ rfl _ rfl w2.heap.size (fun j => F ((i : Int) * 64 + (j : Int))) rfl (heap_alloc_new w2 _) ?_) | (at_lookup; refine wpList_look _ rfl _ _ 234 true rfl 156 155 keyed_arr64 Tryz.underlying234 (zero_u16 _) (n0 + 1 + 1) n1 G rfl HM2.out (blkV (blkF F i)) ?hx HKEY.out (.tuple #[.int .u16 (m : Int), .bool true]) ?hr ?_; (case hx => exact blkV_arr F i); (case hr => rw [HG.out]; rfl)))
         have hkeep := canonB_succ_mem HIN.out
         have HNEW : Az (Bld ((w2.alloc (.cells (arr64 (fun j => F ((i : Int) * 64 + (j : Int)))) 156)).setCell ⟨n0, i, none⟩ (.int .u16 (m : Int))) (n0 + 3) (n0 + 1) n0 (n0 + 1 + 1) F (i + 1) (.slice Av (canonB F i).length cv)) := ⟨Bld.idxSet HB2.out.box (by rw [hkeep]; exact HB2.out.own) HB2.out.idx HBL.out.gt_ne HBL.out.lt1 HBL.out.lt2 HBL.out.lt3 HBL.out.ne1 HBL.out.ne2 HLT.out (by rw [idxB_succ HIN.out, HMI.out])⟩
         have HMNEW : Az (MetAt ((w2.alloc (.cells (arr64 (fun j => F ((i : Int) * 64 + (j : Int)))) 156)).setCell ⟨n0, i, none⟩ (.int .u16 (m : Int))) (n0 + 1 + 1) n1 F (i + 1) G) := ⟨HMET.out.keep HIN.out (HM2.out.setCell (by have := HBL.out.ne1; exact this) _)⟩
         go_roundg k
         case measure => have := HI.out; omega
         case rel => exact ⟨i + 1, p, last, rfl, rfl, rfl, ⟨by have := HI.out; omega⟩, ⟨HP.out.1, fun s t hs ht => by have := HP.out.2.2 s t hs ht; omega⟩, ⟨HLASTN.out⟩, ⟨up_setCell HU2.out HN0.out _⟩, ⟨_, HNEW.out⟩, ⟨n1, G, by have := HN1.out; omega, HMNEW.out⟩⟩
        ·have HIN := Az.mk hin
         have HG : Az (G (blkV (blkF F i)) = none) := ⟨by rw [HMET.out.2, if_neg hin]⟩
         have q6 : 0 ≤ ((canonB F i).length : Int) := by omega
         have q7 : ((canonB F i).length : Int) ≤ 65535 := by omega
         have HNM : Az (n1 < maxLen) := ⟨by have := HN1.out; have := HLT.out; unfold maxLen; omega⟩
         clear hin hcl2
         go_wp2_with (first | (go_at_call 216; (with_reducible refine (block_calls' _ _ _ (L.drop p) _ 0 _ ?hr (HO.out.drop p) ?h1 ?h2 (by decide) ?h3 HDL.out).mono ?_); (case hr => exact HRD.out.up HU.out); (case h1 => omega); (case h2 => have := HLT.out; omega); (case h3 => have := HDL.out; omega); rintro e w2 ⟨he, hb2⟩; rw [HARR.out] at he; subst he; have HB2 := Az.mk (HBL.out.up (up_trans hb2 (up_alloc (up_refl _) (.cells (arr64 (fun j => F ((i : Int) * 64 + (j : Int)))) 156)))); have HM2 := Az.mk ((HMET.out.1.up hb2).alloc (.cells (arr64 (fun j => F ((i : Int) * 64 + (j : Int)))) 156)); have HU2 : Az (Up w (w2.alloc (.cells (arr64 (fun j => F ((i : Int) * 64 + (j : Int)))) 156))) := ⟨up_alloc (up_trans HU.out hb2) _⟩; obtain ⟨c0, c1, c2, cf⟩ := HB2.out.box.cells; have hcell := HB2.out.idx.cell i HLT.out; rw [if_neg (Nat.lt_irrefl i)] at hcell; have hfr := HB2.out.idx.frozen i) | (refine wpList_store64_new _ rfl _ _ rfl _ (fun j => F ((i : Int) * 64 + (j : Int))) rfl rfl ?_) | (refine wpList_load64 _ rfl _ rfl w2.heap.size (fun j => F ((i : Int) * 64 + (j : Int))) rfl (heap_alloc_new w2 _) ?_) | (at_lookup; refine wpList_look _ rfl _ _ 234 true rfl 156 155 keyed_arr64 Tryz.underlying234 (zero_u16 _) (n0 + 1 + 1) n1 G rfl HM2.out (blkV (blkF F i)) ?hx HKEY.out (.tuple #[.int .u16 0, .bool false]) ?hr ?_; (case hx => exact blkV_arr F i); (case hr => rw [HG.out]; rfl)) | (at_mapUpdate; refine wpList_store _ rfl _ _ _ 234 rfl 156 155 keyed_arr64 Tryz.underlying234 (n0 + 1 + 1) n1 G rfl HM2.out HNM.out (blkV (blkF F i)) (.int .u16 ((canonB F i).length : Int)) ?hx rfl HKEY.out ?_; (case hx => exact blkV_arr F i); intro w4 hmap4 hgrow4))
         have HB4 := Az.mk (HB2.out.grown hgrow4)
         have HA4 : Az (Arr64At w4 w2.heap.size (fun j => F ((i : Int) * 64 + (j : Int)))) := ⟨by
          refine (hgrow4.block _ (by simp) (fun e => ?_)).trans (heap_alloc_new w2 _)
          have h1 := HM2.out.lt
          have h2 := (HMET.out.1.up hb2).lt
          injection e with e
          omega⟩
         clear c0 c1 c2 cf hcell hfr
         obtain ⟨c0, c1, c2, cf⟩ := HB4.out.box.cells
         obtain ⟨d0, d1, d2, df⟩ := (HB4.out.up (up_alloc (up_refl _) (.cells (arr64 (fun j => F ((i : Int) * 64 + (j : Int)))) 156))).box.cells
         have hlc1 := load_cells64 HA4.out
         have hlc2 : (loadCellsFrom ⟨w2.heap.size, 0, none⟩ 0 64 #[]).run Tryz.prog w4.drew = .ok (arr64 (fun j => F ((i : Int) * 64 + (j : Int)))) w4.drew := load_cells64 (w := w4.drew) HA4.out
         have HUP4 : Az (Up w w4) := ⟨HU2.out.grown hgrow4 HU2.out.size (fun k hk => by cases hk; have := HN0.out; omega)⟩
         obtain ⟨ie, hie, hze, hsi, hby⟩ := arr64I
         have HNL : Az ((canonB F i).length + 1 ≤ maxLen ∧ ((canonB F i).length + 1) * 128 ≤ 140737488355328) := ⟨by unfold maxLen; omega⟩
         have HB4S : Az (n0 + 3 ≤ w4.heap.size) := ⟨by
          have h1 := HM2.out.lt
          have h2 := hgrow4.size
          have h3 : (w2.alloc (.cells (arr64 (fun j => F ((i : Int) * 64 + (j : Int)))) 156)).heap.size = w2.heap.size + 1 := by simp
          omega⟩
         go_region_law (first | (refine step_append_lies _ (by rfl) _ _ _ (by rfl) (n0 + 3) 156 ie _ 64 128 Tryz.underlying152 hie hze hsi hby (arr64_size _) (by omega) (.slice Av (canonB F i).length cv) (canonB F i).length (blocksC (canonB F i)) (by rfl) ((HB4.out.own.alloc _).drew) ⟨w4.heap.size, 0, none⟩ 1 1 (arr64 (fun j => F ((i : Int) * 64 + (j : Int)))).toList (by rfl) (by rw [Array.length_toList, arr64_size]) (World.news_of_block (cs := arr64 (fun j => F ((i : Int) * 64 + (j : Int)))) (t := 156) (fr := (0, 0)) (heap_alloc_new w4 _)) (arr64_cells _) (by omega) HNL.out.1 HNL.out.2 (Nat.le_trans HB4S.out (by simp)) (w4.heap.size + 1) (by simp) ?_; intro gg cap w5 hown5 hgrow5 hat5 hlt5; have hbx := Bld.grownVb ((HB4.out.up (up_alloc (up_refl _) (.cells (arr64 (fun j => F ((i : Int) * 64 + (j : Int)))) 156))).up (up_drew (up_refl _))) hgrow5; have HBX := Az.mk hbx; have HUP5 : Az (Up w w5) := ⟨(up_drew (up_alloc HUP4.out (.cells (arr64 (fun j => F ((i : Int) * 64 + (j : Int)))) 156))).grown hgrow5 (up_drew (up_alloc HUP4.out (.cells (arr64 (fun j => F ((i : Int) * 64 + (j : Int)))) 156))).size (fun k hk => by have h1 := (HB4.out.own.lt k hk).1; have h2 := HN0.out; omega)⟩; obtain ⟨e0, e1, e2, ef⟩ := hbx.1.cells; clear hbx))
         all_goals
          have HB6 := Az.mk (HBX.out.1.setBlocks (.slice (some ⟨gg, 0, none⟩) ((canonB F i).length + 1) cap))
          have HI6 : Az (IdxAt (w5.setCell ⟨n0 + 1, 2, none⟩ (.slice (some ⟨gg, 0, none⟩) ((canonB F i).length + 1) cap)) n0 (fun q => if q < i then (idxB F i (blkF F q) : Int) else 0)) := ⟨(Below.heap_setCell _ _ _ _ (show n0 ≠ n0 + 1 by omega)).trans HBX.out.2⟩
          clear c0 c1 c2 cf d0 d1 d2 df e0 e1 e2 ef
          obtain ⟨c0, c1, c2, cf⟩ := HB6.out.cells
          have hcell := HI6.out.cell i HLT.out
          rw [if_neg (Nat.lt_irrefl i)] at hcell
          have hfr := HI6.out.frozen i
          go_wp2
          have hnew := canonB_succ_new HIN.out
          have hown6 : (w5.setCell ⟨n0 + 1, 2, none⟩ (.slice (some ⟨gg, 0, none⟩) ((canonB F i).length + 1) cap)).ownsRow (n0 + 3) 156 64 (.slice (some ⟨gg, 0, none⟩) ((canonB F i).length + 1) cap) (canonB F (i + 1)).length (blocksC (canonB F (i + 1))) := by
           rw [hnew, blocksC_new, List.length_append, List.length_singleton, ← arr64_toList]
           exact own_setCell hown5 (show n0 + 1 < n0 + 3 by omega) _
          have HNEW : Az (Bld ((w5.setCell ⟨n0 + 1, 2, none⟩ (.slice (some ⟨gg, 0, none⟩) ((canonB F i).length + 1) cap)).setCell ⟨n0, i, none⟩ (.int .u16 ((canonB F i).length : Int))) (n0 + 3) (n0 + 1) n0 (n0 + 1 + 1) F (i + 1) (.slice (some ⟨gg, 0, none⟩) ((canonB F i).length + 1) cap)) := ⟨Bld.idxSet HB6.out hown6 HI6.out HBL.out.gt_ne HBL.out.lt1 HBL.out.lt2 HBL.out.lt3 HBL.out.ne1 HBL.out.ne2 HLT.out (idxB_new HIN.out).symm⟩
          have HMNEW : Az (MetAt ((w5.setCell ⟨n0 + 1, 2, none⟩ (.slice (some ⟨gg, 0, none⟩) ((canonB F i).length + 1) cap)).setCell ⟨n0, i, none⟩ (.int .u16 ((canonB F i).length : Int))) (n0 + 1 + 1) (n1 + 1) F (i + 1) (putF G (blkV (blkF F i)) (.int .u16 ((canonB F i).length : Int)))) := ⟨HMET.out.step HIN.out ((((hmap4.alloc _).drew.grown hgrow5 (fun e => by have h1 := (HB4.out.own.lt _ e.symm).1; omega)).setCell (show n0 + 1 + 1 ≠ n0 + 1 by omega) _).setCell (show n0 + 1 + 1 ≠ n0 by omega) _)⟩
          go_roundg k
          case measure => have := HI.out; omega
          case rel => exact ⟨i + 1, p, last, rfl, rfl, rfl, ⟨by have := HI.out; omega⟩, ⟨HP.out.1, fun s t hs ht => by have := HP.out.2.2 s t hs ht; omega⟩, ⟨HLASTN.out⟩, ⟨up_setCell (up_setCell HUP5.out (Nat.le_trans HN0.out (Nat.le_succ _)) _) HN0.out _⟩, ⟨_, HNEW.out⟩, ⟨n1 + 1, _, by have := HN1.out; omega, HMNEW.out⟩⟩
     ·have s1 : decide ((p : Int) < (L.length : Int)) = false := dFz (by omega)
      have s2 : decide (p < L.length) = false := dFz (by omega)
      have s3 : ((p : Int) == (L.length : Int)) = true := beq_iff_eq.mpr (by omega)
      have s4 : (p == L.length) = true := beq_iff_eq.mpr (by omega)
      have HZ : Az (blkF F i = zeroL) := ⟨by
       rw [← HF.out]
       refine blk_zero (fun x h1 h2 => valR_out HO.out (q := p) (fun s t hs ht => by have := HP.out.2.2 s t hs ht; omega) (fun t ht => by
        have := (List.getElem?_eq_some_iff.1 ht).1
        omega))⟩
      clear hpk hp hpl
      rcases HLAST.out with hl | ⟨m, hl, hm1, hm2⟩
      ·subst hl
       have s7 : decide ((0 : Int) ≤ -1) = false := by decide
       obtain ⟨A2, hA2⟩ : ∃ A2, (if c = p then A else Option.map (fun x => x.add (p * 3)) A) = A2 := ⟨_, rfl⟩
       have HRD : Az (Rngs w A2 (L.drop p)) := ⟨fun q r hr => by
        have h1 := (List.getElem?_eq_some_iff.1 hr).1
        rw [List.length_drop] at h1
        have h2 := (beq_iff_eq.1 s4)
        omega⟩
       exact mbuild_1
      ·subst hl
       have s7 : decide (0 ≤ (m : Int)) = true := dTz (by omega)
       exact mbuild_2
end Go.Proofs.YtnohcnneflogjaaGreat.M
