/- Compile, walked: what a table compiled is in memory. -/
import Derived.Test.YtnohcnneflogjaaGreatK33
import Derived.Test.YtnohcnneflogjaaGreatK31
import Derived.Test.YtnohcnneflogjaaGreatK32
set_option maxHeartbeats 32000000
set_option maxRecDepth 100000
set_option linter.unusedVariables false
set_option linter.unusedSimpArgs false
namespace Go.Proofs.YtnohcnneflogjaaGreat.M
open Go.RowKit
theorem StatAt.mono {H H' : Nat} {w : World} {b1 b2 : Nat} {A : Option Addr} {n c : Nat} {T : List Rec} (h : StatAt H w b1 b2 A n c T) (hH : H' ≤ H) : StatAt H' w b1 b2 A n c T := by
 obtain ⟨Lr, h1, h2, h3, h4⟩ := h.recs
 exact ⟨h.trie.mono hH, h.wher.mono hH, ⟨Lr, h1, h2, own_mono h3 hH, fun p hp => ⟨(h4 p hp).1, fun a ha => Nat.le_trans hH ((h4 p hp).2 a ha)⟩⟩⟩
theorem RowsMap.low {H H' : Nat} {w : World} {b m : Nat} {G : Int → Option (List Int)} (h : RowsMap H w b m G) (hH : H' ≤ H) : RowsMap H' w b m G := by
 obtain ⟨n, F, h1, h2, h3, h4, h5⟩ := h
 refine ⟨n, F, h1, Nat.le_trans hH h2, h3, h4, fun c l hc => ?_⟩
 obtain ⟨A, cap, h6, h7, h8⟩ := h5 c l hc
 exact ⟨A, cap, h6, h7, fun a ha => Nat.le_trans hH (h8 a ha)⟩
theorem ValMap.low {κ : Type} {k : TypeId} {key : κ → Value} {H H' : Nat} {w : World} {b m : Nat} {G : κ → Option Value} (h : ValMap k key H w b m G) (hH : H' ≤ H) : ValMap k key H' w b m G := by
 obtain ⟨n, F, h1, h2, h3⟩ := h
 exact ⟨n, F, h1, Nat.le_trans hH h2, h3⟩
theorem FormsAt.low {H H' : Nat} {w : World} {bo bf bl bc bs m : Nat} {Go Gf Gl : Int → Option (List Int)} {Gc : Int × Int → Option Value} {Gs : Int → Option Value} (h : FormsAt H w bo bf bl bc bs m Go Gf Gl Gc Gs) (hH : H' ≤ H) : FormsAt H' w bo bf bl bc bs m Go Gf Gl Gc Gs :=
 ⟨h.opens.low hH, h.full.low hH, h.looks.low hH, h.comp.low hH, h.sec.low hH, h.ne⟩
theorem ScrAt.low {H H' : Nat} {w : World} {b : Nat} {A : Option Addr} {T : List Rec} (h : ScrAt H w b A T) (hH : H' ≤ H) : ScrAt H' w b A T := ⟨h.trie.mono hH, h.names, fun a ha => Nat.le_trans hH (h.from_ a ha)⟩
theorem CostAt.low {H H' : Nat} {w : World} {b bm : Nat} {A : Option Addr} {n c : Nat} {T : List Rec} (h : CostAt H w b bm A n c T) (hH : H' ≤ H) : CostAt H' w b bm A n c T := by
 obtain ⟨L, h1, h2, h3⟩ := h.row
 obtain ⟨m, h4, G, h5⟩ := h.mix
 exact ⟨h.trie.mono hH, ⟨L, h1, h2, own_mono h3 hH⟩, ⟨m, h4, G, h5.low hH⟩⟩
structure DataV where
 b1 : Nat
 b2 : Nat
 A1 : Option Addr
 n1 : Nat
 c1 : Nat
 b3 : Nat
 b4 : Nat
 b5 : Nat
 b6 : Nat
 bo : Nat
 bf : Nat
 bl : Nat
 bc : Nat
 bs : Nat
 b7 : Nat
 A2 : Option Addr
 c2 : Nat
 b8 : Nat
 A3 : Option Addr
 n3 : Nat
 c3 : Nat
 bm : Nat
def DataV.cells (D : DataV) (T : List Rec) : Array Value := #[.pointer (some ⟨D.b1, 0, none⟩), .pointer (some ⟨D.b2, 0, none⟩), .slice D.A1 D.n1 D.c1, .pointer (some ⟨D.b3, 0, none⟩), .pointer (some ⟨D.b4, 0, none⟩), .pointer (some ⟨D.b5, 0, none⟩), .pointer (some ⟨D.b6, 0, none⟩), .map (some D.bo), .map (some D.bf), .map (some D.bl), .map (some D.bc), .map (some D.bs), .pointer (some ⟨D.b7, 0, none⟩), .slice D.A2 (namesR (ofKind T 12)).length D.c2, .pointer (some ⟨D.b8, 0, none⟩), .slice D.A3 D.n3 D.c3, .map (some D.bm)]
structure DataAt (H : Nat) (w : World) (bd : Nat) (D : DataV) (T : List Rec) : Prop where
 box : w.heap[bd]? = some (.cells (D.cells T) 56 (0, 0))
 le : H ≤ bd
 stat : StatAt (bd + 1) w D.b1 D.b2 D.A1 D.n1 D.c1 T
 cls : TrieFrom (bd + 1) w D.b3 (numF T 2 (·.n))
 bidi : TrieFrom (bd + 1) w D.b4 (numF T 4 (·.n))
 join : TrieFrom (bd + 1) w D.b5 (numF T 5 (·.n))
 mark : TrieFrom (bd + 1) w D.b6 (numF T 6 (fun _ => 1))
 forms : ∃ m, FormsP (bd + 1) w D.bo D.bf D.bl D.bc D.bs m T T
 scr : ScrAt (bd + 1) w D.b7 D.A2 T
 cost : CostAt (bd + 1) w D.b8 D.bm D.A3 D.n3 D.c3 T
theorem DataAt.chg {M : Nat → Prop} {H : Nat} {w w' : World} {bd : Nat} {D : DataV} {T : List Rec} (h : DataAt H w bd D T) (hc : Chg M w w') (hM : ∀ k, M k → k < H ∨ w.heap.size ≤ k) : DataAt H w' bd D T := by
 have hle := h.le
 have hlt := (Array.getElem?_eq_some_iff.1 h.box).1
 have hM' : ∀ k, M k → k < bd + 1 ∨ w.heap.size ≤ k := fun k hk => by rcases hM k hk with e | e <;> omega
 obtain ⟨m, hf⟩ := h.forms
 exact ⟨chg_block hc h.box (fun e => by rcases hM bd e with e | e <;> omega), hle, h.stat.chg hc hM', h.cls.chg hc hM', h.bidi.chg hc hM', h.join.chg hc hM', h.mark.chg hc hM', ⟨m, hf.chg hc hM'⟩, h.scr.chg hc hM', h.cost.chg hc hM'⟩
theorem DataAt.up {H : Nat} {w w' : World} {bd : Nat} {D : DataV} {T : List Rec} (h : DataAt H w bd D T) (hu : Up w w') : DataAt H w' bd D T := h.chg (M := fun _ => False) (Chg.of_up hu) (fun _ h => h.elim)
abbrev dataO (cs : Array Value) : Obj := .cells cs 56 (0, 0)
theorem data_cell {w : World} {bd : Nat} {cs : Array Value} (h : w.heap[bd]? = some (dataO cs)) {o : Nat} {v : Value} (hv : cs[o]? = some v) : w.cell? ⟨bd, o, none⟩ = some v ∧ w.frozen? ⟨bd, o, none⟩ = false := by
 refine ⟨?_, by simp [World.frozen?, h]⟩
 rw [cell_of_row w bd o _ _ _ h, hv]
theorem Compile_bad (A : Option Addr) (c : Nat) (T : List Rec) (n : Nat) (e : Int) (w : World) (hT : Table w A T) (hW : ∀ x ∈ T, x.Wf) (h : checkE T = (n, e)) (he : e ≠ 0) :
 Calls Tryz.prog 74 #[.slice A T.length c] w fun r w' => r = .returned (.tuple #[.pointer none, .int .i64 n, .int .i64 e]) ∧ Up w w' := by
 have d2 : (e == 0) = false := bqf he
 have d3 : (e != 0) = true := bne_iff_ne.mpr he
 have HT := Az.mk hT
 have HW := Az.mk hW
 have HE := Az.mk h
 clear hT hW h he
 go_enter Tryz.func74, Tryz.ntmps74
 go_wp2_with (first | (go_at_call 117; (with_reducible refine (Check_calls A c T n e _ HT.out HW.out HE.out).mono ?_); rintro r w1 ⟨rfl, hup1⟩))
 go_ret3
 exact ⟨rfl, hup1⟩
theorem Compile_good (A : Option Addr) (c : Nat) (T : List Rec) (w : World) (hT : Table w A T) (hF : Fine T) (h : checkE T = (0, 0)) :
 Calls Tryz.prog 74 #[.slice A T.length c] w fun r w' => ∃ bd D, r = .returned (.tuple #[.pointer (some ⟨bd, 0, none⟩), .int .i64 0, .int .i64 0]) ∧ DataAt w.heap.size w' bd D T ∧ Up w w' := by
 have HT := Az.mk hT
 have HF := Az.mk hF
 have HE := Az.mk h
 clear hT hF h
 go_enter Tryz.func74, Tryz.ntmps74
 go_wp2_with (first | (go_at_call 117; (with_reducible refine (Check_calls A c T 0 0 _ HT.out HF.out.wf HE.out).mono ?_); rintro r w0 ⟨rfl, hup0⟩; have HUP0 := Az.mk hup0; have HU0 : Az (Up w (w0.alloc (dataO #[nilP, nilP, nilS, nilP, nilP, nilP, nilP, .map none, .map none, .map none, .map none, .map none, nilP, nilS, nilP, nilS, .map none]))) := ⟨up_alloc hup0 _⟩; have HB0 : Az ((w0.alloc (dataO #[nilP, nilP, nilS, nilP, nilP, nilP, nilP, .map none, .map none, .map none, .map none, .map none, nilP, nilS, nilP, nilS, .map none])).heap[w0.heap.size]? = some (dataO #[nilP, nilP, nilS, nilP, nilP, nilP, nilP, .map none, .map none, .map none, .map none, .map none, nilP, nilS, nilP, nilS, .map none]) ∧ w0.heap.size < (w0.alloc (dataO #[nilP, nilP, nilS, nilP, nilP, nilP, nilP, .map none, .map none, .map none, .map none, .map none, nilP, nilS, nilP, nilS, .map none])).heap.size) := ⟨⟨heap_alloc_new w0 _, by simp⟩⟩; clear hup0) | (go_at_call 118; (with_reducible refine (newStatuses_calls A c T _ (HT.out.up HU0.out) HF.out.toGood).mono ?_); rintro r w1 ⟨b1, b2, A1, n1, c1, rfl, hp1, hup1⟩; have HV1 := Az.mk hup1; have HB1a : Az (w1.heap[w0.heap.size]? = some (dataO #[nilP, nilP, nilS, nilP, nilP, nilP, nilP, .map none, .map none, .map none, .map none, .map none, nilP, nilS, nilP, nilS, .map none])) := ⟨up_block hup1 HB0.out.1⟩; obtain ⟨y0, z0⟩ := data_cell (o := 0) HB1a.out rfl; obtain ⟨y1, z1⟩ := data_cell (o := 1) HB1a.out rfl; obtain ⟨y2, z2⟩ := data_cell (o := 2) HB1a.out rfl; have HP1b : Az (StatAt (w0.heap.size + 1) w1 b1 b2 A1 n1 c1 T) := ⟨hp1.mono (by have h1 := HB0.out.2; omega)⟩; have HC1 : Az (Chg (fun q => q = w0.heap.size) w1 (((w1.setCell ⟨w0.heap.size, 0, none⟩ (.pointer (some ⟨b1, 0, none⟩))).setCell ⟨w0.heap.size, 1, none⟩ (.pointer (some ⟨b2, 0, none⟩))).setCell ⟨w0.heap.size, 2, none⟩ (.slice A1 n1 c1))) := ⟨((Chg.of_set (M := fun q => q = w0.heap.size) w1 ⟨w0.heap.size, 0, none⟩ (.pointer (some ⟨b1, 0, none⟩)) rfl).trans (Chg.of_set (M := fun q => q = w0.heap.size) (w1.setCell ⟨w0.heap.size, 0, none⟩ (.pointer (some ⟨b1, 0, none⟩))) ⟨w0.heap.size, 1, none⟩ (.pointer (some ⟨b2, 0, none⟩)) rfl) (fun _ h => .inl h)).trans (Chg.of_set (M := fun q => q = w0.heap.size) ((w1.setCell ⟨w0.heap.size, 0, none⟩ (.pointer (some ⟨b1, 0, none⟩))).setCell ⟨w0.heap.size, 1, none⟩ (.pointer (some ⟨b2, 0, none⟩))) ⟨w0.heap.size, 2, none⟩ (.slice A1 n1 c1) rfl) (fun _ h => .inl h)⟩; have HB1 : Az ((((w1.setCell ⟨w0.heap.size, 0, none⟩ (.pointer (some ⟨b1, 0, none⟩))).setCell ⟨w0.heap.size, 1, none⟩ (.pointer (some ⟨b2, 0, none⟩))).setCell ⟨w0.heap.size, 2, none⟩ (.slice A1 n1 c1)).heap[w0.heap.size]? = some (dataO #[.pointer (some ⟨b1, 0, none⟩), .pointer (some ⟨b2, 0, none⟩), .slice A1 n1 c1, nilP, nilP, nilP, nilP, .map none, .map none, .map none, .map none, .map none, nilP, nilS, nilP, nilS, .map none]) ∧ w0.heap.size < (((w1.setCell ⟨w0.heap.size, 0, none⟩ (.pointer (some ⟨b1, 0, none⟩))).setCell ⟨w0.heap.size, 1, none⟩ (.pointer (some ⟨b2, 0, none⟩))).setCell ⟨w0.heap.size, 2, none⟩ (.slice A1 n1 c1)).heap.size) := ⟨⟨(by have := (box_set (box_set (box_set HB1a.out 0 (.pointer (some ⟨b1, 0, none⟩))) 1 (.pointer (some ⟨b2, 0, none⟩))) 2 (.slice A1 n1 c1)); exact this), Nat.lt_of_lt_of_le (Array.getElem?_eq_some_iff.1 HB1a.out).1 HC1.out.size⟩⟩; have HU1 : Az (Up w (((w1.setCell ⟨w0.heap.size, 0, none⟩ (.pointer (some ⟨b1, 0, none⟩))).setCell ⟨w0.heap.size, 1, none⟩ (.pointer (some ⟨b2, 0, none⟩))).setCell ⟨w0.heap.size, 2, none⟩ (.slice A1 n1 c1))) := ⟨((Chg.of_up (M := fun q => w.heap.size ≤ q) (up_trans HU0.out hup1)).trans HC1.out (fun q h => .inl (by subst h; exact HUP0.out.size))).below (Nat.le_refl _) (fun q h => h)⟩; clear hp1 hup1) | (go_at_call 119; (with_reducible refine (prop_class A c T _ (HT.out.up HU1.out) HF.out.toGood).mono ?_); rintro r w2 ⟨b3, H2, rfl, hp2, hH2, hup2⟩; have HV2 := Az.mk hup2; have HB2a : Az (w2.heap[w0.heap.size]? = some (dataO #[.pointer (some ⟨b1, 0, none⟩), .pointer (some ⟨b2, 0, none⟩), .slice A1 n1 c1, nilP, nilP, nilP, nilP, .map none, .map none, .map none, .map none, .map none, nilP, nilS, nilP, nilS, .map none])) := ⟨up_block hup2 HB1.out.1⟩; obtain ⟨y3, z3⟩ := data_cell (o := 3) HB2a.out rfl; have HP2b : Az (TrieFrom (w0.heap.size + 1) w2 b3 (numF T 2 (·.n))) := ⟨hp2.mono (Nat.le_trans (by have h1 := HB1.out.2; omega) hH2)⟩; have HC2 : Az (Chg (fun q => q = w0.heap.size) w2 (w2.setCell ⟨w0.heap.size, 3, none⟩ (.pointer (some ⟨b3, 0, none⟩)))) := ⟨Chg.of_set (M := fun q => q = w0.heap.size) w2 ⟨w0.heap.size, 3, none⟩ (.pointer (some ⟨b3, 0, none⟩)) rfl⟩; have HB2 : Az ((w2.setCell ⟨w0.heap.size, 3, none⟩ (.pointer (some ⟨b3, 0, none⟩))).heap[w0.heap.size]? = some (dataO #[.pointer (some ⟨b1, 0, none⟩), .pointer (some ⟨b2, 0, none⟩), .slice A1 n1 c1, .pointer (some ⟨b3, 0, none⟩), nilP, nilP, nilP, .map none, .map none, .map none, .map none, .map none, nilP, nilS, nilP, nilS, .map none]) ∧ w0.heap.size < (w2.setCell ⟨w0.heap.size, 3, none⟩ (.pointer (some ⟨b3, 0, none⟩))).heap.size) := ⟨⟨(by have := (box_set HB2a.out 3 (.pointer (some ⟨b3, 0, none⟩))); exact this), Nat.lt_of_lt_of_le (Array.getElem?_eq_some_iff.1 HB2a.out).1 HC2.out.size⟩⟩; have HU2 : Az (Up w (w2.setCell ⟨w0.heap.size, 3, none⟩ (.pointer (some ⟨b3, 0, none⟩)))) := ⟨((Chg.of_up (M := fun q => w.heap.size ≤ q) (up_trans HU1.out hup2)).trans HC2.out (fun q h => .inl (by subst h; exact HUP0.out.size))).below (Nat.le_refl _) (fun q h => h)⟩; clear hp2 hup2 hH2) | (go_at_call 119; (with_reducible refine (prop_bidi A c T _ (HT.out.up HU2.out) HF.out.toGood).mono ?_); rintro r w3 ⟨b4, H3, rfl, hp3, hH3, hup3⟩; have HV3 := Az.mk hup3; have HB3a : Az (w3.heap[w0.heap.size]? = some (dataO #[.pointer (some ⟨b1, 0, none⟩), .pointer (some ⟨b2, 0, none⟩), .slice A1 n1 c1, .pointer (some ⟨b3, 0, none⟩), nilP, nilP, nilP, .map none, .map none, .map none, .map none, .map none, nilP, nilS, nilP, nilS, .map none])) := ⟨up_block hup3 HB2.out.1⟩; obtain ⟨y4, z4⟩ := data_cell (o := 4) HB3a.out rfl; have HP3b : Az (TrieFrom (w0.heap.size + 1) w3 b4 (numF T 4 (·.n))) := ⟨hp3.mono (Nat.le_trans (by have h1 := HB2.out.2; omega) hH3)⟩; have HC3 : Az (Chg (fun q => q = w0.heap.size) w3 (w3.setCell ⟨w0.heap.size, 4, none⟩ (.pointer (some ⟨b4, 0, none⟩)))) := ⟨Chg.of_set (M := fun q => q = w0.heap.size) w3 ⟨w0.heap.size, 4, none⟩ (.pointer (some ⟨b4, 0, none⟩)) rfl⟩; have HB3 : Az ((w3.setCell ⟨w0.heap.size, 4, none⟩ (.pointer (some ⟨b4, 0, none⟩))).heap[w0.heap.size]? = some (dataO #[.pointer (some ⟨b1, 0, none⟩), .pointer (some ⟨b2, 0, none⟩), .slice A1 n1 c1, .pointer (some ⟨b3, 0, none⟩), .pointer (some ⟨b4, 0, none⟩), nilP, nilP, .map none, .map none, .map none, .map none, .map none, nilP, nilS, nilP, nilS, .map none]) ∧ w0.heap.size < (w3.setCell ⟨w0.heap.size, 4, none⟩ (.pointer (some ⟨b4, 0, none⟩))).heap.size) := ⟨⟨(by have := (box_set HB3a.out 4 (.pointer (some ⟨b4, 0, none⟩))); exact this), Nat.lt_of_lt_of_le (Array.getElem?_eq_some_iff.1 HB3a.out).1 HC3.out.size⟩⟩; have HU3 : Az (Up w (w3.setCell ⟨w0.heap.size, 4, none⟩ (.pointer (some ⟨b4, 0, none⟩)))) := ⟨((Chg.of_up (M := fun q => w.heap.size ≤ q) (up_trans HU2.out hup3)).trans HC3.out (fun q h => .inl (by subst h; exact HUP0.out.size))).below (Nat.le_refl _) (fun q h => h)⟩; clear hp3 hup3 hH3) | (go_at_call 119; (with_reducible refine (prop_join A c T _ (HT.out.up HU3.out) HF.out.toGood).mono ?_); rintro r w4 ⟨b5, H4, rfl, hp4, hH4, hup4⟩; have HV4 := Az.mk hup4; have HB4a : Az (w4.heap[w0.heap.size]? = some (dataO #[.pointer (some ⟨b1, 0, none⟩), .pointer (some ⟨b2, 0, none⟩), .slice A1 n1 c1, .pointer (some ⟨b3, 0, none⟩), .pointer (some ⟨b4, 0, none⟩), nilP, nilP, .map none, .map none, .map none, .map none, .map none, nilP, nilS, nilP, nilS, .map none])) := ⟨up_block hup4 HB3.out.1⟩; obtain ⟨y5, z5⟩ := data_cell (o := 5) HB4a.out rfl; have HP4b : Az (TrieFrom (w0.heap.size + 1) w4 b5 (numF T 5 (·.n))) := ⟨hp4.mono (Nat.le_trans (by have h1 := HB3.out.2; omega) hH4)⟩; have HC4 : Az (Chg (fun q => q = w0.heap.size) w4 (w4.setCell ⟨w0.heap.size, 5, none⟩ (.pointer (some ⟨b5, 0, none⟩)))) := ⟨Chg.of_set (M := fun q => q = w0.heap.size) w4 ⟨w0.heap.size, 5, none⟩ (.pointer (some ⟨b5, 0, none⟩)) rfl⟩; have HB4 : Az ((w4.setCell ⟨w0.heap.size, 5, none⟩ (.pointer (some ⟨b5, 0, none⟩))).heap[w0.heap.size]? = some (dataO #[.pointer (some ⟨b1, 0, none⟩), .pointer (some ⟨b2, 0, none⟩), .slice A1 n1 c1, .pointer (some ⟨b3, 0, none⟩), .pointer (some ⟨b4, 0, none⟩), .pointer (some ⟨b5, 0, none⟩), nilP, .map none, .map none, .map none, .map none, .map none, nilP, nilS, nilP, nilS, .map none]) ∧ w0.heap.size < (w4.setCell ⟨w0.heap.size, 5, none⟩ (.pointer (some ⟨b5, 0, none⟩))).heap.size) := ⟨⟨(by have := (box_set HB4a.out 5 (.pointer (some ⟨b5, 0, none⟩))); exact this), Nat.lt_of_lt_of_le (Array.getElem?_eq_some_iff.1 HB4a.out).1 HC4.out.size⟩⟩; have HU4 : Az (Up w (w4.setCell ⟨w0.heap.size, 5, none⟩ (.pointer (some ⟨b5, 0, none⟩)))) := ⟨((Chg.of_up (M := fun q => w.heap.size ≤ q) (up_trans HU3.out hup4)).trans HC4.out (fun q h => .inl (by subst h; exact HUP0.out.size))).below (Nat.le_refl _) (fun q h => h)⟩; clear hp4 hup4 hH4) | (go_at_call 119; (with_reducible refine (prop_mark A c T _ (HT.out.up HU4.out) HF.out.toGood).mono ?_); rintro r w5 ⟨b6, H5, rfl, hp5, hH5, hup5⟩; have HV5 := Az.mk hup5; have HB5a : Az (w5.heap[w0.heap.size]? = some (dataO #[.pointer (some ⟨b1, 0, none⟩), .pointer (some ⟨b2, 0, none⟩), .slice A1 n1 c1, .pointer (some ⟨b3, 0, none⟩), .pointer (some ⟨b4, 0, none⟩), .pointer (some ⟨b5, 0, none⟩), nilP, .map none, .map none, .map none, .map none, .map none, nilP, nilS, nilP, nilS, .map none])) := ⟨up_block hup5 HB4.out.1⟩; obtain ⟨y6, z6⟩ := data_cell (o := 6) HB5a.out rfl; have HP5b : Az (TrieFrom (w0.heap.size + 1) w5 b6 (numF T 6 (fun _ => 1))) := ⟨hp5.mono (Nat.le_trans (by have h1 := HB4.out.2; omega) hH5)⟩; have HC5 : Az (Chg (fun q => q = w0.heap.size) w5 (w5.setCell ⟨w0.heap.size, 6, none⟩ (.pointer (some ⟨b6, 0, none⟩)))) := ⟨Chg.of_set (M := fun q => q = w0.heap.size) w5 ⟨w0.heap.size, 6, none⟩ (.pointer (some ⟨b6, 0, none⟩)) rfl⟩; have HB5 : Az ((w5.setCell ⟨w0.heap.size, 6, none⟩ (.pointer (some ⟨b6, 0, none⟩))).heap[w0.heap.size]? = some (dataO #[.pointer (some ⟨b1, 0, none⟩), .pointer (some ⟨b2, 0, none⟩), .slice A1 n1 c1, .pointer (some ⟨b3, 0, none⟩), .pointer (some ⟨b4, 0, none⟩), .pointer (some ⟨b5, 0, none⟩), .pointer (some ⟨b6, 0, none⟩), .map none, .map none, .map none, .map none, .map none, nilP, nilS, nilP, nilS, .map none]) ∧ w0.heap.size < (w5.setCell ⟨w0.heap.size, 6, none⟩ (.pointer (some ⟨b6, 0, none⟩))).heap.size) := ⟨⟨(by have := (box_set HB5a.out 6 (.pointer (some ⟨b6, 0, none⟩))); exact this), Nat.lt_of_lt_of_le (Array.getElem?_eq_some_iff.1 HB5a.out).1 HC5.out.size⟩⟩; have HU5 : Az (Up w (w5.setCell ⟨w0.heap.size, 6, none⟩ (.pointer (some ⟨b6, 0, none⟩)))) := ⟨((Chg.of_up (M := fun q => w.heap.size ≤ q) (up_trans HU4.out hup5)).trans HC5.out (fun q h => .inl (by subst h; exact HUP0.out.size))).below (Nat.le_refl _) (fun q h => h)⟩; clear hp5 hup5 hH5) | (go_at_call 124; (with_reducible refine (newForms_calls A c T _ (HT.out.up HU5.out) HF.out).mono ?_); rintro r w6 ⟨bo, bf, bl, bc, bs, mf, rfl, hp6, hup6⟩; have HV6 := Az.mk hup6; have HB6a : Az (w6.heap[w0.heap.size]? = some (dataO #[.pointer (some ⟨b1, 0, none⟩), .pointer (some ⟨b2, 0, none⟩), .slice A1 n1 c1, .pointer (some ⟨b3, 0, none⟩), .pointer (some ⟨b4, 0, none⟩), .pointer (some ⟨b5, 0, none⟩), .pointer (some ⟨b6, 0, none⟩), .map none, .map none, .map none, .map none, .map none, nilP, nilS, nilP, nilS, .map none])) := ⟨up_block hup6 HB5.out.1⟩; obtain ⟨y7, z7⟩ := data_cell (o := 7) HB6a.out rfl; obtain ⟨y8, z8⟩ := data_cell (o := 8) HB6a.out rfl; obtain ⟨y9, z9⟩ := data_cell (o := 9) HB6a.out rfl; obtain ⟨y10, z10⟩ := data_cell (o := 10) HB6a.out rfl; obtain ⟨y11, z11⟩ := data_cell (o := 11) HB6a.out rfl; have HP6b : Az (FormsP (w0.heap.size + 1) w6 bo bf bl bc bs mf T T) := ⟨FormsAt.low hp6 (by have h1 := HB5.out.2; omega)⟩; have HC6 : Az (Chg (fun q => q = w0.heap.size) w6 (((((w6.setCell ⟨w0.heap.size, 7, none⟩ (.map (some bo))).setCell ⟨w0.heap.size, 8, none⟩ (.map (some bf))).setCell ⟨w0.heap.size, 9, none⟩ (.map (some bl))).setCell ⟨w0.heap.size, 10, none⟩ (.map (some bc))).setCell ⟨w0.heap.size, 11, none⟩ (.map (some bs)))) := ⟨((((Chg.of_set (M := fun q => q = w0.heap.size) w6 ⟨w0.heap.size, 7, none⟩ (.map (some bo)) rfl).trans (Chg.of_set (M := fun q => q = w0.heap.size) (w6.setCell ⟨w0.heap.size, 7, none⟩ (.map (some bo))) ⟨w0.heap.size, 8, none⟩ (.map (some bf)) rfl) (fun _ h => .inl h)).trans (Chg.of_set (M := fun q => q = w0.heap.size) ((w6.setCell ⟨w0.heap.size, 7, none⟩ (.map (some bo))).setCell ⟨w0.heap.size, 8, none⟩ (.map (some bf))) ⟨w0.heap.size, 9, none⟩ (.map (some bl)) rfl) (fun _ h => .inl h)).trans (Chg.of_set (M := fun q => q = w0.heap.size) (((w6.setCell ⟨w0.heap.size, 7, none⟩ (.map (some bo))).setCell ⟨w0.heap.size, 8, none⟩ (.map (some bf))).setCell ⟨w0.heap.size, 9, none⟩ (.map (some bl))) ⟨w0.heap.size, 10, none⟩ (.map (some bc)) rfl) (fun _ h => .inl h)).trans (Chg.of_set (M := fun q => q = w0.heap.size) ((((w6.setCell ⟨w0.heap.size, 7, none⟩ (.map (some bo))).setCell ⟨w0.heap.size, 8, none⟩ (.map (some bf))).setCell ⟨w0.heap.size, 9, none⟩ (.map (some bl))).setCell ⟨w0.heap.size, 10, none⟩ (.map (some bc))) ⟨w0.heap.size, 11, none⟩ (.map (some bs)) rfl) (fun _ h => .inl h)⟩; have HB6 : Az ((((((w6.setCell ⟨w0.heap.size, 7, none⟩ (.map (some bo))).setCell ⟨w0.heap.size, 8, none⟩ (.map (some bf))).setCell ⟨w0.heap.size, 9, none⟩ (.map (some bl))).setCell ⟨w0.heap.size, 10, none⟩ (.map (some bc))).setCell ⟨w0.heap.size, 11, none⟩ (.map (some bs))).heap[w0.heap.size]? = some (dataO #[.pointer (some ⟨b1, 0, none⟩), .pointer (some ⟨b2, 0, none⟩), .slice A1 n1 c1, .pointer (some ⟨b3, 0, none⟩), .pointer (some ⟨b4, 0, none⟩), .pointer (some ⟨b5, 0, none⟩), .pointer (some ⟨b6, 0, none⟩), .map (some bo), .map (some bf), .map (some bl), .map (some bc), .map (some bs), nilP, nilS, nilP, nilS, .map none]) ∧ w0.heap.size < (((((w6.setCell ⟨w0.heap.size, 7, none⟩ (.map (some bo))).setCell ⟨w0.heap.size, 8, none⟩ (.map (some bf))).setCell ⟨w0.heap.size, 9, none⟩ (.map (some bl))).setCell ⟨w0.heap.size, 10, none⟩ (.map (some bc))).setCell ⟨w0.heap.size, 11, none⟩ (.map (some bs))).heap.size) := ⟨⟨(by have := (box_set (box_set (box_set (box_set (box_set HB6a.out 7 (.map (some bo))) 8 (.map (some bf))) 9 (.map (some bl))) 10 (.map (some bc))) 11 (.map (some bs))); exact this), Nat.lt_of_lt_of_le (Array.getElem?_eq_some_iff.1 HB6a.out).1 HC6.out.size⟩⟩; have HU6 : Az (Up w (((((w6.setCell ⟨w0.heap.size, 7, none⟩ (.map (some bo))).setCell ⟨w0.heap.size, 8, none⟩ (.map (some bf))).setCell ⟨w0.heap.size, 9, none⟩ (.map (some bl))).setCell ⟨w0.heap.size, 10, none⟩ (.map (some bc))).setCell ⟨w0.heap.size, 11, none⟩ (.map (some bs)))) := ⟨((Chg.of_up (M := fun q => w.heap.size ≤ q) (up_trans HU5.out hup6)).trans HC6.out (fun q h => .inl (by subst h; exact HUP0.out.size))).below (Nat.le_refl _) (fun q h => h)⟩; clear hp6 hup6) | (go_at_call 125; (with_reducible refine (newScripts_calls A c T _ (HT.out.up HU6.out) HF.out.toGood).mono ?_); rintro r w7 ⟨b7, A2, c2, rfl, hp7, hup7⟩; have HV7 := Az.mk hup7; have HB7a : Az (w7.heap[w0.heap.size]? = some (dataO #[.pointer (some ⟨b1, 0, none⟩), .pointer (some ⟨b2, 0, none⟩), .slice A1 n1 c1, .pointer (some ⟨b3, 0, none⟩), .pointer (some ⟨b4, 0, none⟩), .pointer (some ⟨b5, 0, none⟩), .pointer (some ⟨b6, 0, none⟩), .map (some bo), .map (some bf), .map (some bl), .map (some bc), .map (some bs), nilP, nilS, nilP, nilS, .map none])) := ⟨up_block hup7 HB6.out.1⟩; obtain ⟨y12, z12⟩ := data_cell (o := 12) HB7a.out rfl; obtain ⟨y13, z13⟩ := data_cell (o := 13) HB7a.out rfl; have HP7b : Az (ScrAt (w0.heap.size + 1) w7 b7 A2 T) := ⟨hp7.low (by have h1 := HB6.out.2; omega)⟩; have HC7 : Az (Chg (fun q => q = w0.heap.size) w7 ((w7.setCell ⟨w0.heap.size, 12, none⟩ (.pointer (some ⟨b7, 0, none⟩))).setCell ⟨w0.heap.size, 13, none⟩ (.slice A2 (namesR (ofKind T 12)).length c2))) := ⟨(Chg.of_set (M := fun q => q = w0.heap.size) w7 ⟨w0.heap.size, 12, none⟩ (.pointer (some ⟨b7, 0, none⟩)) rfl).trans (Chg.of_set (M := fun q => q = w0.heap.size) (w7.setCell ⟨w0.heap.size, 12, none⟩ (.pointer (some ⟨b7, 0, none⟩))) ⟨w0.heap.size, 13, none⟩ (.slice A2 (namesR (ofKind T 12)).length c2) rfl) (fun _ h => .inl h)⟩; have HB7 : Az (((w7.setCell ⟨w0.heap.size, 12, none⟩ (.pointer (some ⟨b7, 0, none⟩))).setCell ⟨w0.heap.size, 13, none⟩ (.slice A2 (namesR (ofKind T 12)).length c2)).heap[w0.heap.size]? = some (dataO #[.pointer (some ⟨b1, 0, none⟩), .pointer (some ⟨b2, 0, none⟩), .slice A1 n1 c1, .pointer (some ⟨b3, 0, none⟩), .pointer (some ⟨b4, 0, none⟩), .pointer (some ⟨b5, 0, none⟩), .pointer (some ⟨b6, 0, none⟩), .map (some bo), .map (some bf), .map (some bl), .map (some bc), .map (some bs), .pointer (some ⟨b7, 0, none⟩), .slice A2 (namesR (ofKind T 12)).length c2, nilP, nilS, .map none]) ∧ w0.heap.size < ((w7.setCell ⟨w0.heap.size, 12, none⟩ (.pointer (some ⟨b7, 0, none⟩))).setCell ⟨w0.heap.size, 13, none⟩ (.slice A2 (namesR (ofKind T 12)).length c2)).heap.size) := ⟨⟨(by have := (box_set (box_set HB7a.out 12 (.pointer (some ⟨b7, 0, none⟩))) 13 (.slice A2 (namesR (ofKind T 12)).length c2)); exact this), Nat.lt_of_lt_of_le (Array.getElem?_eq_some_iff.1 HB7a.out).1 HC7.out.size⟩⟩; have HU7 : Az (Up w ((w7.setCell ⟨w0.heap.size, 12, none⟩ (.pointer (some ⟨b7, 0, none⟩))).setCell ⟨w0.heap.size, 13, none⟩ (.slice A2 (namesR (ofKind T 12)).length c2))) := ⟨((Chg.of_up (M := fun q => w.heap.size ≤ q) (up_trans HU6.out hup7)).trans HC7.out (fun q h => .inl (by subst h; exact HUP0.out.size))).below (Nat.le_refl _) (fun q h => h)⟩; clear hp7 hup7) | (go_at_call 126; (with_reducible refine (newCosts_calls A c T _ (HT.out.up HU7.out) HF.out.toGood).mono ?_); rintro r w8 ⟨b8, bm, A3, n3, c3, rfl, hp8, hup8⟩; have HV8 := Az.mk hup8; have HB8a : Az (w8.heap[w0.heap.size]? = some (dataO #[.pointer (some ⟨b1, 0, none⟩), .pointer (some ⟨b2, 0, none⟩), .slice A1 n1 c1, .pointer (some ⟨b3, 0, none⟩), .pointer (some ⟨b4, 0, none⟩), .pointer (some ⟨b5, 0, none⟩), .pointer (some ⟨b6, 0, none⟩), .map (some bo), .map (some bf), .map (some bl), .map (some bc), .map (some bs), .pointer (some ⟨b7, 0, none⟩), .slice A2 (namesR (ofKind T 12)).length c2, nilP, nilS, .map none])) := ⟨up_block hup8 HB7.out.1⟩; obtain ⟨y14, z14⟩ := data_cell (o := 14) HB8a.out rfl; obtain ⟨y15, z15⟩ := data_cell (o := 15) HB8a.out rfl; obtain ⟨y16, z16⟩ := data_cell (o := 16) HB8a.out rfl; have HP8b : Az (CostAt (w0.heap.size + 1) w8 b8 bm A3 n3 c3 T) := ⟨hp8.low (by have h1 := HB7.out.2; omega)⟩; have HC8 : Az (Chg (fun q => q = w0.heap.size) w8 (((w8.setCell ⟨w0.heap.size, 14, none⟩ (.pointer (some ⟨b8, 0, none⟩))).setCell ⟨w0.heap.size, 15, none⟩ (.slice A3 n3 c3)).setCell ⟨w0.heap.size, 16, none⟩ (.map (some bm)))) := ⟨((Chg.of_set (M := fun q => q = w0.heap.size) w8 ⟨w0.heap.size, 14, none⟩ (.pointer (some ⟨b8, 0, none⟩)) rfl).trans (Chg.of_set (M := fun q => q = w0.heap.size) (w8.setCell ⟨w0.heap.size, 14, none⟩ (.pointer (some ⟨b8, 0, none⟩))) ⟨w0.heap.size, 15, none⟩ (.slice A3 n3 c3) rfl) (fun _ h => .inl h)).trans (Chg.of_set (M := fun q => q = w0.heap.size) ((w8.setCell ⟨w0.heap.size, 14, none⟩ (.pointer (some ⟨b8, 0, none⟩))).setCell ⟨w0.heap.size, 15, none⟩ (.slice A3 n3 c3)) ⟨w0.heap.size, 16, none⟩ (.map (some bm)) rfl) (fun _ h => .inl h)⟩; have HB8 : Az ((((w8.setCell ⟨w0.heap.size, 14, none⟩ (.pointer (some ⟨b8, 0, none⟩))).setCell ⟨w0.heap.size, 15, none⟩ (.slice A3 n3 c3)).setCell ⟨w0.heap.size, 16, none⟩ (.map (some bm))).heap[w0.heap.size]? = some (dataO #[.pointer (some ⟨b1, 0, none⟩), .pointer (some ⟨b2, 0, none⟩), .slice A1 n1 c1, .pointer (some ⟨b3, 0, none⟩), .pointer (some ⟨b4, 0, none⟩), .pointer (some ⟨b5, 0, none⟩), .pointer (some ⟨b6, 0, none⟩), .map (some bo), .map (some bf), .map (some bl), .map (some bc), .map (some bs), .pointer (some ⟨b7, 0, none⟩), .slice A2 (namesR (ofKind T 12)).length c2, .pointer (some ⟨b8, 0, none⟩), .slice A3 n3 c3, .map (some bm)]) ∧ w0.heap.size < (((w8.setCell ⟨w0.heap.size, 14, none⟩ (.pointer (some ⟨b8, 0, none⟩))).setCell ⟨w0.heap.size, 15, none⟩ (.slice A3 n3 c3)).setCell ⟨w0.heap.size, 16, none⟩ (.map (some bm))).heap.size) := ⟨⟨(by have := (box_set (box_set (box_set HB8a.out 14 (.pointer (some ⟨b8, 0, none⟩))) 15 (.slice A3 n3 c3)) 16 (.map (some bm))); exact this), Nat.lt_of_lt_of_le (Array.getElem?_eq_some_iff.1 HB8a.out).1 HC8.out.size⟩⟩; have HU8 : Az (Up w (((w8.setCell ⟨w0.heap.size, 14, none⟩ (.pointer (some ⟨b8, 0, none⟩))).setCell ⟨w0.heap.size, 15, none⟩ (.slice A3 n3 c3)).setCell ⟨w0.heap.size, 16, none⟩ (.map (some bm)))) := ⟨((Chg.of_up (M := fun q => w.heap.size ≤ q) (up_trans HU7.out hup8)).trans HC8.out (fun q h => .inl (by subst h; exact HUP0.out.size))).below (Nat.le_refl _) (fun q h => h)⟩; clear hp8 hup8))
 go_ret3
 have S8 := HC8.out
 have S7 := (HC7.out.trans (Chg.of_up (M := fun q => q = w0.heap.size) HV8.out) (fun q h => .inl h)).trans S8 (fun q h => .inl h)
 have S6 := (HC6.out.trans (Chg.of_up (M := fun q => q = w0.heap.size) HV7.out) (fun q h => .inl h)).trans S7 (fun q h => .inl h)
 have S5 := (HC5.out.trans (Chg.of_up (M := fun q => q = w0.heap.size) HV6.out) (fun q h => .inl h)).trans S6 (fun q h => .inl h)
 have S4 := (HC4.out.trans (Chg.of_up (M := fun q => q = w0.heap.size) HV5.out) (fun q h => .inl h)).trans S5 (fun q h => .inl h)
 have S3 := (HC3.out.trans (Chg.of_up (M := fun q => q = w0.heap.size) HV4.out) (fun q h => .inl h)).trans S4 (fun q h => .inl h)
 have S2 := (HC2.out.trans (Chg.of_up (M := fun q => q = w0.heap.size) HV3.out) (fun q h => .inl h)).trans S3 (fun q h => .inl h)
 have S1 := (HC1.out.trans (Chg.of_up (M := fun q => q = w0.heap.size) HV2.out) (fun q h => .inl h)).trans S2 (fun q h => .inl h)
 have hM : ∀ (W : World) (q : Nat), q = w0.heap.size → q < w0.heap.size + 1 ∨ W.heap.size ≤ q := fun W q h => .inl (by omega)
 refine ⟨w0.heap.size, ⟨b1, b2, A1, n1, c1, b3, b4, b5, b6, bo, bf, bl, bc, bs, b7, A2, c2, b8, A3, n3, c3, bm⟩, rfl, ⟨HB8.out.1, HUP0.out.size, HP1b.out.chg S1 (hM _), HP2b.out.chg S2 (hM _), HP3b.out.chg S3 (hM _), HP4b.out.chg S4 (hM _), HP5b.out.chg S5 (hM _), ⟨mf, HP6b.out.chg S6 (hM _)⟩, HP7b.out.chg S7 (hM _), HP8b.out.chg S8 (hM _)⟩, HU8.out⟩
end Go.Proofs.YtnohcnneflogjaaGreat.M
namespace Go.Proofs.YtnohcnneflogjaaGreat.M
open Go.RowKit
def Shp (w w' : World) : Prop := ∀ (k : Nat) (cs : Array Value) (e : TypeId), w.heap[k]? = some (.cells cs e (0, 0)) → ∃ cs' : Array Value, w'.heap[k]? = some (.cells cs' e (0, 0)) ∧ cs'.size = cs.size
theorem Shp.refl (w : World) : Shp w w := fun k cs e h => ⟨cs, h, rfl⟩
theorem Shp.trans {a b c : World} (h : Shp a b) (k : Shp b c) : Shp a c := fun q cs e hq => by
 obtain ⟨c1, h1, h2⟩ := h q cs e hq
 obtain ⟨c2, h3, h4⟩ := k q c1 e h1
 exact ⟨c2, h3, by omega⟩
theorem Shp.set (w : World) (b o : Nat) (v : Value) : Shp w (w.setCell ⟨b, o, none⟩ v) := fun q cs e hq => by
 by_cases h : q = b
 ·subst h
  exact ⟨_, box_set hq o v, by simp⟩
 ·exact ⟨cs, by rw [Below.heap_setCell _ _ _ _ h]; exact hq, rfl⟩
theorem add_zero_none (g n : Nat) : (⟨g, 0, none⟩ : Addr).add n = ⟨g, n, none⟩ := by unfold Addr.add; split <;> simp_all
theorem shp_cell {H : Nat} {w w' : World} {e : TypeId} {size n m c : Nat} {A : Option Addr} {xs : List Value} (h : w.ownsRow H e size (.slice A n c) m xs) (hs : Shp w w') {j : Nat} (hj : j < m * size) :
 ∃ g, A = some ⟨g, 0, none⟩ ∧ g < w.heap.size ∧ ∃ v, w'.cell? ⟨g, j, none⟩ = some v ∧ w'.frozen? ⟨g, j, none⟩ = false := by
 rcases h.2 with ⟨_, hn⟩ | ⟨g, cap, cur, hv, hg, hh, h1, h2, h3, h4⟩
 ·subst hn
  rw [Nat.zero_mul] at hj
  exact absurd hj (Nat.not_lt_zero _)
 ·injection hv with e1 e2 e3
  subst e1
  obtain ⟨cs', h5, h6⟩ := hs g cur e hh
  have hlt : j < cs'.size := by
   rw [h6, h3]
   exact Nat.lt_of_lt_of_le hj (Nat.mul_le_mul_right size h1)
  refine ⟨g, rfl, (Array.getElem?_eq_some_iff.1 hh).1, cs'[j], ?_, by simp [World.frozen?, h5]⟩
  rw [cell_of_row w' g j _ _ _ h5]
  exact Array.getElem?_eq_getElem hlt
theorem recAt_far {w : World} {a : Addr} {x : Rec} {A : Option Addr} {c : Nat} (h : RecAt w a x A c) {b : Addr} (hb : b.block ≠ a.block) (v : Value) : RecAt (w.setCell b v) a x A c :=
 recAt_chg h (Chg.of_set (M := fun k => k = b.block) w b v rfl) (fun e => hb e.symm)
theorem recAt_off {w : World} {g o q : Nat} {x : Rec} {A : Option Addr} {c : Nat} (h : RecAt w ⟨g, o, none⟩ x A c) (hq : q < o ∨ o + 8 ≤ q) (v : Value) : RecAt (w.setCell ⟨g, q, none⟩ v) ⟨g, o, none⟩ x A c := by
 obtain ⟨h0, h1, h2, h3, h4, h5, h6, h7⟩ := h
 have key : ∀ (p : Nat), o ≤ p → p < o + 8 → (w.setCell ⟨g, q, none⟩ v).cell? ⟨g, p, none⟩ = w.cell? ⟨g, p, none⟩ := fun p p1 p2 => World.cell?_setCell_other (h := fun e => by injection e; omega) ..
 exact ⟨(key o (by omega) (by omega)).trans h0, (key (o + 1) (by omega) (by omega)).trans h1, (key (o + 2) (by omega) (by omega)).trans h2, (key (o + 3) (by omega) (by omega)).trans h3, (key (o + 4) (by omega) (by omega)).trans h4, (key (o + 5) (by omega) (by omega)).trans h5, (key (o + 6) (by omega) (by omega)).trans h6, (key (o + 7) (by omega) (by omega)).trans h7⟩
def wipe (w : World) (g o : Nat) : World :=
 (((((((w.setCell ⟨g, o, none⟩ (.int .i64 0)).setCell ⟨g, o + 1, none⟩ (.int .i64 0)).setCell ⟨g, o + 2, none⟩ (.int .i64 0)).setCell ⟨g, o + 3, none⟩ (.int .i64 0)).setCell ⟨g, o + 4, none⟩ (.slice none 0 0)).setCell ⟨g, o + 5, none⟩ (.string ByteArray.empty)).setCell ⟨g, o + 6, none⟩ (.string ByteArray.empty)).setCell ⟨g, o + 7, none⟩ (.float .f64 0)
theorem wipe_ok (w : World) (g o : Nat) : Chg (fun k => k = g) w (wipe w g o) ∧ Shp w (wipe w g o) ∧ ∀ (q : Nat) (x : Rec) (A : Option Addr) (c : Nat), RecAt w ⟨g, q, none⟩ x A c → o + 8 ≤ q → RecAt (wipe w g o) ⟨g, q, none⟩ x A c := by
 refine ⟨?_, ?_, ?_⟩
 ·unfold wipe
  exact (((((((Chg.of_set (M := fun k => k = g) w _ _ rfl).trans (Chg.of_set (M := fun k => k = g) _ _ _ rfl) (fun _ h => .inl h)).trans (Chg.of_set (M := fun k => k = g) _ _ _ rfl) (fun _ h => .inl h)).trans (Chg.of_set (M := fun k => k = g) _ _ _ rfl) (fun _ h => .inl h)).trans (Chg.of_set (M := fun k => k = g) _ _ _ rfl) (fun _ h => .inl h)).trans (Chg.of_set (M := fun k => k = g) _ _ _ rfl) (fun _ h => .inl h)).trans (Chg.of_set (M := fun k => k = g) _ _ _ rfl) (fun _ h => .inl h)).trans (Chg.of_set (M := fun k => k = g) _ _ _ rfl) (fun _ h => .inl h)
 ·unfold wipe
  exact (((((((Shp.set w g o _).trans (Shp.set _ g _ _)).trans (Shp.set _ g _ _)).trans (Shp.set _ g _ _)).trans (Shp.set _ g _ _)).trans (Shp.set _ g _ _)).trans (Shp.set _ g _ _)).trans (Shp.set _ g _ _)
 ·intro q x A c h hq
  unfold wipe
  exact recAt_off (recAt_off (recAt_off (recAt_off (recAt_off (recAt_off (recAt_off (recAt_off h (by omega) _) (by omega) _) (by omega) _) (by omega) _) (by omega) _) (by omega) _) (by omega) _) (by omega) _
theorem TabFrom.low {H H' : Nat} {w : World} {A : Option Addr} {T : List Rec} (h : TabFrom H w A T) (hH : H' ≤ H) : TabFrom H' w A T := fun i x hx => by
 obtain ⟨ad, A', c', h1, h2, h3, h4, h5⟩ := h i x hx
 exact ⟨ad, A', c', h1, Nat.le_trans hH h2, h3, h4, fun a ha => Nat.le_trans hH (h5 a ha)⟩
theorem DataAt.low {H H' : Nat} {w : World} {bd : Nat} {D : DataV} {T : List Rec} (h : DataAt H w bd D T) (hH : H' ≤ H) : DataAt H' w bd D T :=
 ⟨h.box, Nat.le_trans hH h.le, h.stat, h.cls, h.bidi, h.join, h.mark, h.forms, h.scr, h.cost⟩
end Go.Proofs.YtnohcnneflogjaaGreat.M
namespace Go.Proofs.YtnohcnneflogjaaGreat.M
open Go.RowKit
attribute [local go_sem] max_two_int min_two_int
theorem checkE_zero {T : List Rec} (h : (checkE T).2 = 0) (hW : ∀ x ∈ T, x.Wf) : checkE T = (0, 0) := by
 have h1 : (tableE T).2 = 0 := by
  rcases Int.decEq (tableE T).2 0 with h2 | h2
  ·rw [checkE_table h2] at h
   exact absurd h h2
  ·exact h2
 have hF := fine_of hW h
 have h2 := checkE_bases h1 (fun j hj => hF.recs j hj)
 rw [hF.base] at h2
 exact h2
theorem table_take {w : World} {A : Option Addr} {T : List Rec} (h : Table w A T) (n : Nat) : Table w A (T.take n) := fun i x hx => by
 rw [List.getElem?_take] at hx
 split at hx
 ·exact h i x hx
 ·cases hx
def MadeRet (T : List Rec) (w : World) (e : Ending) (w' : World) : Prop :=
 ((checkE T).2 ≠ 0 ∧ e = .returned (.tuple #[.pointer none, .slice none 0 0, .int .i64 0]) ∧ Up w w') ∨
 ((checkE T).2 = 0 ∧ ∃ bd D A c, e = .returned (.tuple #[.pointer (some ⟨bd, 0, none⟩), .slice A T.length c, .int .i64 1]) ∧ DataAt w.heap.size w' bd D T ∧ TabFrom w.heap.size w' A T ∧ Up w w')
def wipeA (w : World) (a : Addr) : World :=
 (((((((w.setCell a (.int .i64 0)).setCell ⟨a.block, a.off + 1, none⟩ (.int .i64 0)).setCell ⟨a.block, a.off + 2, none⟩ (.int .i64 0)).setCell ⟨a.block, a.off + 3, none⟩ (.int .i64 0)).setCell ⟨a.block, a.off + 4, none⟩ (.slice none 0 0)).setCell ⟨a.block, a.off + 5, none⟩ (.string ByteArray.empty)).setCell ⟨a.block, a.off + 6, none⟩ (.string ByteArray.empty)).setCell ⟨a.block, a.off + 7, none⟩ (.float .f64 0)
theorem wipeA_eq (w : World) (g n : Nat) : wipeA w ((⟨g, 0, none⟩ : Addr).add n) = wipe w g n := by
 rw [add_zero_none]
 rfl
def LeftAt (H s : Nat) (w0 w : World) (A : Option Addr) (c : Nat) (L : List RecP) (i : Nat) : Prop :=
 Chg (fun k => H ≤ k ∧ k < s) w0 w ∧ Shp w0 w ∧ ∀ (j : Nat) (p : RecP), i ≤ j → L[j]? = some p → ∃ ad, A = some ad ∧ RecAt w (ad.add (j * 8)) p.1 p.2.1 p.2.2
theorem Made_bad (A : Option Addr) (c : Nat) (T P : List Rec) (w : World) (hP : T.take 150 = P) (hT : Table w A T) (hW : ∀ x ∈ T, x.Wf) (hc : T.length ≤ c) (he : (checkE P).2 ≠ 0) :
 Calls Tryz.prog 21 #[.slice A T.length c] w (MadeRet P w) := by
 have hu96 := Tryz.underlying113
 have hpl : P.length = min 150 T.length := by rw [← hP, List.length_take]
 have hmn : min (T.length : Int) 150 = (P.length : Int) := by omega
 have h1 : 0 ≤ (P.length : Int) := by omega
 have h2 : (P.length : Int) ≤ (c : Int) := by omega
 have HT : Az (Table w A P) := ⟨by rw [← hP]; exact table_take hT 150⟩
 have HW : Az (∀ x ∈ P, x.Wf) := ⟨fun x hx => hW x (by rw [← hP] at hx; exact List.mem_of_mem_take hx)⟩
 obtain ⟨n, e, hce⟩ : ∃ n e, checkE P = (n, e) := ⟨_, _, rfl⟩
 have he' : e ≠ 0 := by rw [hce] at he; exact he
 have d2 : (e == 0) = false := bqf he'
 have d3 : (e != 0) = true := bne_iff_ne.mpr he'
 have HE := Az.mk hce
 have HE0 := Az.mk he'
 have HEE := Az.mk he
 have HPL : Az (P.length ≤ 4096) := ⟨by omega⟩
 clear hT hP hpl hW hce he' he
 go_enter Tryz.func21, Tryz.ntmps21
 go_wp2_with (first | (go_at_call 72; (with_reducible refine (Copied_own A c P _ HT.out HW.out HPL.out).mono ?_); rintro r w1 ⟨A1, c1, rfl, hco1, hup1⟩; have HC1 := Az.mk hco1; have HU1 := Az.mk hup1; clear hco1 hup1) | (go_at_call 72; (with_reducible refine (Copied_own A1 c1 P _ HC1.out.tab.table HW.out HPL.out).mono ?_); rintro r w2 ⟨A2, c2, rfl, hco2, hup2⟩; have HC2 := Az.mk hco2; have HU2 := Az.mk hup2; clear hco2 hup2) | (go_at_call 73; (with_reducible refine (RCheck_calls A2 c2 P n e _ HC2.out.tab.table HW.out HE.out).mono ?_); rintro r w3 ⟨rfl, hup3⟩; have HU3 := Az.mk hup3; clear hup3) | (go_at_call 74; (with_reducible refine (Compile_bad A1 c1 P n e _ ((HC1.out.tab.up HU2.out).up HU3.out).table HW.out HE.out HE0.out).mono ?_); rintro r w4 ⟨rfl, hup4⟩; have HU4 := Az.mk hup4; clear hup4) | (go_at_call 75; (with_reducible refine (Same_calls A1 A2 c1 c2 P _ (((HC1.out.tab.up HU2.out).up HU3.out).up HU4.out).table ((HC2.out.tab.up HU3.out).up HU4.out).table HW.out HPL.out).mono ?_); rintro r w5 ⟨rfl, hup5⟩; have HU5 := Az.mk hup5; clear hup5))
 go_ret3
 exact .inl ⟨HEE.out, rfl, up_trans HU1.out (up_trans HU2.out (up_trans HU3.out (up_trans HU4.out HU5.out)))⟩
theorem Made_good (A : Option Addr) (c : Nat) (T P : List Rec) (w : World) (hP : T.take 150 = P) (hT : Table w A T) (hW : ∀ x ∈ T, x.Wf) (hc : T.length ≤ c) (he : (checkE P).2 = 0) :
 Calls Tryz.prog 21 #[.slice A T.length c] w (MadeRet P w) := by
 have hu96 := Tryz.underlying113
 have hpl : P.length = min 150 T.length := by rw [← hP, List.length_take]
 have hmn : min (T.length : Int) 150 = (P.length : Int) := by omega
 have h1 : 0 ≤ (P.length : Int) := by omega
 have h2 : (P.length : Int) ≤ (c : Int) := by omega
 have HT : Az (Table w A P) := ⟨by rw [← hP]; exact table_take hT 150⟩
 have hWP : ∀ x ∈ P, x.Wf := fun x hx => hW x (by rw [← hP] at hx; exact List.mem_of_mem_take hx)
 have HW := Az.mk hWP
 have HE := Az.mk (checkE_zero he hWP)
 have HF := Az.mk (fine_of hWP he)
 have HEE := Az.mk he
 have hPL : P.length ≤ 4096 := by omega
 have HPL := Az.mk hPL
 clear hT hP hpl hW hWP he
 go_enter Tryz.func21, Tryz.ntmps21
 go_wp2_with (first | (go_at_call 72; (with_reducible refine (Copied_own A c P _ HT.out HW.out HPL.out).mono ?_); rintro r w1 ⟨A1, c1, rfl, hco1, hup1⟩; have HC1 := Az.mk hco1; have HU1 := Az.mk hup1; clear hco1 hup1) | (go_at_call 72; (with_reducible refine (Copied_own A1 c1 P _ HC1.out.tab.table HW.out HPL.out).mono ?_); rintro r w2 ⟨A2, c2, rfl, hco2, hup2⟩; have HC2 := Az.mk hco2; have HU2 := Az.mk hup2; clear hco2 hup2) | (go_at_call 73; (with_reducible refine (RCheck_calls A2 c2 P 0 0 _ HC2.out.tab.table HW.out HE.out).mono ?_); rintro r w3 ⟨rfl, hup3⟩; have HU3 := Az.mk hup3; clear hup3) | (go_at_call 74; (with_reducible refine (Compile_good A1 c1 P _ ((HC1.out.tab.up HU2.out).up HU3.out).table HF.out HE.out).mono ?_); rintro r w4 ⟨bd, D, rfl, hda, hup4⟩; have HDA := Az.mk hda; have HU4 := Az.mk hup4; clear hup4 hda) | (go_at_call 75; (with_reducible refine (Same_calls A1 A2 c1 c2 P _ (((HC1.out.tab.up HU2.out).up HU3.out).up HU4.out).table ((HC2.out.tab.up HU3.out).up HU4.out).table HW.out HPL.out).mono ?_); rintro r w5 ⟨rfl, hup5⟩; have HU5 := Az.mk hup5; clear hup5))
 obtain ⟨wo, rfl⟩ : ∃ wo : World, wo = w5 := ⟨_, rfl⟩
 obtain ⟨L, hL1, hL2, hL3⟩ := HC1.out
 have hU15 : Up w1 wo := up_trans HU2.out (up_trans HU3.out (up_trans HU4.out HU5.out))
 have HROW : Az (wo.ownsRow w.heap.size 113 8 (.slice A1 P.length c1) P.length (recsCells L) ∧ ∀ g, (Value.slice A1 P.length c1).ownBlock = some g → g < w1.heap.size) := ⟨own_up hL2 hU15, fun g hg => (hL2.lt g hg).2⟩
 have HTOS : Az (∀ p ∈ L, wo.ownsRow w.heap.size 21 1 (.slice p.2.1 p.1.to.length p.2.2) p.1.to.length (p.1.to.map (Value.int .i32)) ∧ ∀ a, p.2.1 = some a → w.heap.size ≤ a.block ∧ a.block < w1.heap.size ∧ (Value.slice A1 P.length c1).ownBlock ≠ some a.block) := ⟨fun p hp => ⟨own_up (hL3 p hp).1 hU15, (hL3 p hp).2⟩⟩
 have HLP : Az (L.map (·.1) = P) := ⟨hL1⟩
 have HLEFT0 : Az (LeftAt w.heap.size w1.heap.size wo wo A1 c1 L 0) := ⟨⟨Chg.refl _ _, Shp.refl _, fun j p _ hp => by
  rcases own_cases HROW.out.1 with ⟨hv, h0, hx⟩ | ⟨g, cap, hv, hg, _, hcell⟩
  ·have h3 := recsCells_length L
   rw [hx] at h3
   have h4 := (List.getElem?_eq_some_iff.1 hp).1
   simp at h3
   omega
  ·injection hv with e1 e2 e3
   subst e1
   refine ⟨_, rfl, ?_⟩
   rw [add_zero_none]
   exact row_recAt hcell hp⟩⟩
 clear hL1 hL2 hL3 hU15
 go_loopg [12] P.length (fun k v12 w' => ∃ i : Nat, v12 = .int .i64 i ∧ Az (i + k = P.length) ∧ Az (LeftAt w.heap.size w1.heap.size wo w' A1 c1 L i))
 case atStart => exact ⟨0, rfl, ⟨Nat.zero_add _⟩, HLEFT0⟩
 case round =>
  clear HLEFT0
  obtain ⟨i, rfl, HI, HLF⟩ := hrel
  have hi := HI.out
  cases gk with
  | zero =>
    have hlt : decide ((i : Int) < (P.length : Int)) = false := dFz (by omega)
    have hln : decide (i < P.length) = false := dFz (by omega)
    clear hi
    go_wp2
    go_ret3
    have hch := HLF.out.1
    have h12 := HU2.out.size
    have h23 := HU3.out.size
    have h34 := HU4.out.size
    have h45 := HU5.out.size
    have h01 := HU1.out.size
    refine .inr ⟨HEE.out, bd, D, A2, c2, rfl, ?_, ?_, ?_⟩
    ·exact ((HDA.out.up HU5.out).chg hch (fun k hk => .inl (by omega))).low (by omega)
    ·exact ((((HC2.out.tab.up HU3.out).up HU4.out).up HU5.out).chg hch (fun k hk => .inl (by omega))).low (by omega)
    ·exact ((Chg.of_up (M := fun k => w.heap.size ≤ k) (up_trans HU1.out (up_trans HU2.out (up_trans HU3.out (up_trans HU4.out HU5.out))))).trans hch (fun k hk => .inl hk.1)).below (Nat.le_refl _) (fun k hk => hk)
  | succ k =>
    have hlt : decide ((i : Int) < (P.length : Int)) = true := dTz (by omega)
    have hln : decide (i < P.length) = true := dTz (by omega)
    have p1 : 0 ≤ (i : Int) := by omega
    have p2 : (i : Int) < (P.length : Int) := by omega
    obtain ⟨p, hp⟩ : ∃ p, L[i]? = some p := by
     have h3 := congrArg List.length HLP.out
     rw [List.length_map] at h3
     exact ⟨_, List.getElem?_eq_getElem (show i < L.length by omega)⟩
    obtain ⟨x, Ai, ci⟩ := p
    have HPI := Az.mk hp
    have hpm := List.mem_of_getElem? hp
    have HTI := Az.mk (HTOS.out _ hpm)
    have HXL : Az (x.to.length ≤ 35184372087808) := ⟨by
     have h4 : x ∈ P := by rw [← HLP.out]; exact List.mem_map.2 ⟨_, hpm, rfl⟩
     have := (HW.out x h4).len
     omega⟩
    obtain ⟨ad, hA, hrec⟩ := HLF.out.2.2 i (x, Ai, ci) (Nat.le_refl _) hp
    obtain ⟨g, hg1, hg2, hg3⟩ := shp_cell HROW.out.1 HLF.out.2.1 (j := i * 8) (by omega)
    have HAD : Az (ad = ⟨g, 0, none⟩ ∧ w.heap.size ≤ g ∧ g < w1.heap.size) := ⟨by
     rw [hA] at hg1
     injection hg1 with hg1
     subst hg1
     refine ⟨rfl, ?_, HROW.out.2 g (by rw [hA]; rfl)⟩
     exact (HROW.out.1.lt g (by rw [hA]; rfl)).1⟩
    subst hA
    have HREC := Az.mk hrec
    clear hi hp hpm hg1 hg2 hg3 hrec
    obtain ⟨g0, g1, g2, g3, g4, g5, g6, g7⟩ := HREC.out
    have hxl := HXL.out
    have HLFI : Az (LeftAt w.heap.size w1.heap.size wo wr (some ad) c1 L i) := HLF
    go_wp2
    go_loopg [13] x.to.length (fun k v13 w' => ∃ q : Nat, v13 = .int .i64 q ∧ Az (q + k = x.to.length) ∧ Az (LeftAt w.heap.size w1.heap.size wo w' (some ad) c1 L i))
    case atStart => exact ⟨0, rfl, ⟨Nat.zero_add _⟩, HLFI⟩
    case round =>
     clear HLFI HLF HREC g0 g1 g2 g3 g4 g5 g6 g7
     obtain ⟨q, rfl, HQ, HLQ⟩ := hrel
     have hq := HQ.out
     obtain ⟨ad', hA', hrec⟩ := HLQ.out.2.2 i (x, Ai, ci) (Nat.le_refl _) HPI.out
     cases hA'
     obtain ⟨g0, g1, g2, g3, g4, g5, g6, g7⟩ := hrec
     clear hlt hln
     cases gk with
     | zero =>
       have hqt : decide ((q : Int) < (x.to.length : Int)) = false := dFz (by omega)
       have hqn : decide (q < x.to.length) = false := dFz (by omega)
       have h5 := HAD.out.1
       subst h5
       have hadd := add_zero_none g (i * 8)
       rw [add_zero_none] at g0 g1 g2 g3 g4 g5 g6 g7
       have hz : ∀ o, o < 8 → wr.frozen? ⟨g, i * 8 + o, none⟩ = false := fun o ho => by
        obtain ⟨g', hg1, _, v, _, hg3⟩ := shp_cell HROW.out.1 HLQ.out.2.1 (j := i * 8 + o) (by omega)
        injection hg1 with hg1
        injection hg1 with hg1
        subst hg1
        exact hg3
       have z0 := hz 0 (by omega)
       have z1 := hz 1 (by omega)
       have z2 := hz 2 (by omega)
       have z3 := hz 3 (by omega)
       have z4 := hz 4 (by omega)
       have z5 := hz 5 (by omega)
       have z6 := hz 6 (by omega)
       have z7 := hz 7 (by omega)
       rw [Nat.add_zero] at z0
       clear hq hz
       go_wp2
       go_roundg k
       case measure => have := HI.out; omega
       case rel =>
        refine ⟨i + 1, rfl, ⟨by have := HI.out; omega⟩, ⟨?_⟩⟩
        show LeftAt w.heap.size w1.heap.size wo (wipe wr g (i * 8)) (some ⟨g, 0, none⟩) c1 L (i + 1)
        have h6 := HAD.out.2
        obtain ⟨y1, y2, y3⟩ := wipe_ok wr g (i * 8)
        refine ⟨HLQ.out.1.trans y1 (fun k hk => .inl (by subst hk; exact h6)), HLQ.out.2.1.trans y2, fun j p hj hp => ?_⟩
        obtain ⟨ad', hA', hr⟩ := HLQ.out.2.2 j p (by omega) hp
        cases hA'
        refine ⟨_, rfl, ?_⟩
        rw [add_zero_none] at *
        exact y3 (j * 8) p.1 p.2.1 p.2.2 hr (by omega)
     | succ k' =>
       have hqt : decide ((q : Int) < (x.to.length : Int)) = true := dTz (by omega)
       have hqn : decide (q < x.to.length) = true := dTz (by omega)
       have q1 : 0 ≤ (q : Int) := by omega
       have q2 : (q : Int) < (x.to.length : Int) := by omega
       obtain ⟨gi, hgi, _, v, hv1, hv2⟩ := shp_cell HTI.out.1 HLQ.out.2.1 (j := q) (by omega)
       have hgi' : Ai = some ⟨gi, 0, none⟩ := hgi
       have HGI : Az (w.heap.size ≤ gi ∧ gi < w1.heap.size ∧ gi ≠ g) := ⟨by
        have h7 := HTI.out.2 ⟨gi, 0, none⟩ hgi'
        refine ⟨h7.1, h7.2.1, fun e => h7.2.2 ?_⟩
        have h8 := HAD.out.1
        subst h8
        subst e
        rfl⟩
       obtain ⟨ai, hai⟩ : ∃ ai : Addr, ai = ⟨gi, 0, none⟩ := ⟨_, rfl⟩
       rw [← add_zero_none, ← hai] at hv1 hv2
       rw [← hai] at hgi'
       subst hgi'
       have HAI := Az.mk hai
       clear hq hai hgi
       go_wp2
       go_roundg k'
       case measure => have := HQ.out; omega
       case rel =>
        refine ⟨q + 1, rfl, ⟨by have := HQ.out; omega⟩, ⟨?_⟩⟩
        have h5 := HAI.out
        subst h5
        rw [add_zero_none]
        refine ⟨HLQ.out.1.trans (Chg.of_set (M := fun k => k = gi) wr ⟨gi, q, none⟩ _ rfl) (fun k hk => .inl (by subst hk; exact ⟨HGI.out.1, HGI.out.2.1⟩)), HLQ.out.2.1.trans (Shp.set wr gi q _), fun j p hj hp => ?_⟩
        obtain ⟨ad', hA', hr⟩ := HLQ.out.2.2 j p hj hp
        cases hA'
        refine ⟨ad, rfl, recAt_far hr ?_ _⟩
        rw [add_block, HAD.out.1]
        exact HGI.out.2.2
theorem Made_calls (A : Option Addr) (c : Nat) (T : List Rec) (w : World) (hT : Table w A T) (hW : ∀ x ∈ T, x.Wf) (hc : T.length ≤ c) :
 Calls Tryz.prog 21 #[.slice A T.length c] w (MadeRet (T.take 150) w) := by
 rcases Int.decEq (checkE (T.take 150)).2 0 with h | h
 ·exact Made_bad A c T _ w rfl hT hW hc h
 ·exact Made_good A c T _ w rfl hT hW hc h
end Go.Proofs.YtnohcnneflogjaaGreat.M
