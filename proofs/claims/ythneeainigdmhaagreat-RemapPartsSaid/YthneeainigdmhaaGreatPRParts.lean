/- RemapParts, walked. (printed by mkrparts.py) -/
import Derived.Test.YthneeainigdmhaaGreatPRemap
import Derived.Test.YthneeainigdmhaaGreatPOwnPut
import Derived.Test.YthneeainigdmhaaGreatK37
import Derived.Laws.BitsLemmas
set_option linter.unusedVariables false
set_option linter.unusedSimpArgs false
namespace Go.Proofs.YthneeainigdmhaaGreat.M
open Go.RowKit
attribute [local go_sem] max_two_int min_two_int Oper.semAt_some
set_option maxHeartbeats 16000000
set_option maxRecDepth 100000

theorem i64_and63 (n : Int) : bits .and .i64 n 63 = n % 64 := by
  have h127 : (BitVec.ofInt 64 63).toNat = 2 ^ 6 - 1 := by decide
  have key : (BitVec.ofInt 64 n &&& BitVec.ofInt 64 63).toNat = (n % ((2 ^ 64 : Nat) : Int)).toNat % 2 ^ 6 := by
    rw [BitVec.toNat_and, BitVec.toNat_ofInt, h127, Nat.and_two_pow_sub_one_eq_mod]
  show IntKind.i64.wrap ((BitVec.ofInt 64 n &&& BitVec.ofInt 64 63).toNat : Nat) = n % 64
  rw [key, IntKind.wrap_i64]
  omega
/-- What may have been turned behind Parts: the place to stop; the row that was handed in; what is new. -/
def PM (h lo hi B : Nat) (b : Nat) : Prop := b = h ∨ (lo ≤ b ∧ b < hi) ∨ B ≤ b
theorem boxed_chg {M : Nat → Prop} {w W : World} {b : Nat} {t : TypeId} {v : Value} (h : Boxed w b t v) (hc : Chg M w W) (hM : ¬ M b) : Boxed W b t v := (hc.block b h.lt hM).trans h
theorem cell_chg {M : Nat → Prop} {w W : World} {b : Nat} {v : Value} (h : w.cell? ⟨b, 0, none⟩ = some v) (hc : Chg M w W) (hM : ¬ M b) : W.cell? ⟨b, 0, none⟩ = some v := (World.cell?_of_block (hc.block b (cell_lt h) hM)).trans h
/-! the two loops -/
theorem up_put {w W : World} (h : Up w W) (l : Nat) (o : Obj) (hl : w.heap.size ≤ l) : Up w (W.putObj l o) := Below.grown h (grownBy_putObj' W l o) h.size (fun k e => by cases e; exact hl)
theorem ko_up {W W' : World} (h : Up W W') : KeepsOthers W W' := ⟨h.size, fun k o hk _ => up_same h hk⟩
/-- Between two rounds of the first loop. -/
def P1I (M : Nat → Prop) (wa : World) (h hj st : Nat) (k : Nat) (W : World) : Prop := Chg M wa W ∧ Boxed W hj 3 (.int .i64 (k : Int)) ∧ Boxed W h 3 (.int .i64 (st : Int)) ∧ k ≤ st
/-- It has been left. -/
def P1X (M : Nat → Prop) (wa : World) (h hj st N : Nat) (c : Code) (W : World) : Prop := c = .exit 2 ∧ st < N ∧ Chg M wa W ∧ Boxed W hj 3 (.int .i64 (st : Int)) ∧ Boxed W h 3 (.int .i64 (st : Int))
/-- .. of the second. -/
def P2I (M : Nat → Prop) (wa : World) (hj D : Nat) (k : Nat) (W : World) : Prop := Chg M wa W ∧ Boxed W hj 3 (.int .i64 (k : Int)) ∧ W.heap[D]? = some (.deferred (some []))
theorem P1I.grows (M : Nat → Prop) (wa : World) (h hj st : Nat) (k : Nat) : Grows (P1I M wa h hj st k) := fun W W' ⟨a, b, c, d⟩ hu => ⟨chg_up a hu, boxed_up b hu, boxed_up c hu, d⟩
theorem P2I.grows (M : Nat → Prop) (wa : World) (hj D : Nat) (k : Nat) : Grows (P2I M wa hj D k) := fun W W' ⟨a, b, c⟩ hu => ⟨chg_up a hu, boxed_up b hu, up_same hu c⟩
theorem P1I.turns (M : Nat → Prop) (wa : World) (h hj st B : Nat) (h1 : wa.heap.size ≤ B) (h2 : h < B) (h3 : hj < B) (k : Nat) : Turns B (P1I M wa h hj st k) := fun W l o o' ⟨a, b, c, d⟩ hl _ _ => ⟨chgput a l o' (by omega), boxed_put b l o' (by omega), boxed_put c l o' (by omega), d⟩
theorem P1X.turns (M : Nat → Prop) (wa : World) (h hj st N B : Nat) (h1 : wa.heap.size ≤ B) (h2 : h < B) (h3 : hj < B) (c : Code) : Turns B (P1X M wa h hj st N c) := fun W l o o' ⟨e, a, b, c, d⟩ hl _ _ => ⟨e, a, chgput b l o' (by omega), boxed_put c l o' (by omega), boxed_put d l o' (by omega)⟩
theorem P2I.turns (M : Nat → Prop) (wa : World) (hj D B : Nat) (h1 : wa.heap.size ≤ B) (h2 : D < B) (h3 : hj < B) (k : Nat) : Turns B (P2I M wa hj D k) := fun W l o o' ⟨a, b, c⟩ hl _ _ => ⟨chgput a l o' (by omega), boxed_put b l o' (by omega), (World.putObj_heap_other (by omega)).trans c⟩
theorem RemapParts_no (A : Option Addr) (c : Nat) (T : List Rec) (A1 : Option Addr) (n1 c1 : Nat) (fl st : Int) (w : World) (hT : Table w A T) (hW : ∀ x ∈ T, x.Wf) (hc : T.length ≤ c) (he : (checkE (T.take 150)).2 ≠ 0) :
    Calls Tryz.prog 12 #[.slice A T.length c, .slice A1 n1 c1, .int .i64 fl, .int .i64 st] w fun e w' => e = .returned (.bool true) ∧ Up w w' := by
  have HM : Aside0 (∀ w', Up w w' → Calls Tryz.prog 20 #[.slice A T.length c] w' fun e w'' => e = .returned (.tuple #[.pointer none, .slice none 0 0, .int .i64 0]) ∧ Up w' w'') := ⟨fun w' hu => Made_no A c T w' (hT.up hu) hW hc he⟩
  have HU0 : Aside0 (∀ a b d e : Obj, Up w ((((w.alloc a).alloc b).alloc d).alloc e)) := ⟨fun a b d e => up_alloc (up_alloc (up_alloc (up_alloc (up_refl w) a) b) d) e⟩
  have HR0 : Aside0 (∀ a b d : Obj, Boxed ((((w.alloc a).alloc b).alloc d).alloc (.cells #[.bool false] 4)) (w.heap.size + 1 + 1 + 1) 4 (.bool false)) := ⟨fun a b d => by
    have := Boxed.new (((w.alloc a).alloc b).alloc d) 4 (.bool false)
    simpa using this⟩
  clear hT hW hc he
  go_enter Tryz.func12, Tryz.ntmps12
  go_wp2_with (first | (go_at_call 20; (with_reducible refine (HM.out _ (HU0.out _ _ _ _)).mono ?_); rintro e w1 ⟨rfl, hup1⟩; have HU1 := Aside0.mk hup1; clear hup1) | (go_at_call 61; (with_reducible refine (told15_calls _).mono ?_); rintro e w2 ⟨rfl, hup2⟩; have bx := boxed_up ((boxed_up (HR0.out _ _ _) HU1.out).alloc _) hup2; have rc := bx.cell; have rf := bx.frozen; have HU2 := Aside0.mk (up_trans (HU0.out _ _ _ _) (up_trans HU1.out (up_trans (up_alloc (up_refl w1) _) hup2))); have hsz := hup2.size; clear hup2))
  refine bodyPost_ret (v := .bool true) ?_ rfl ⟨rfl, ?_⟩
  · simp [results, Tryz.f12, go_sem, rc, rf]
  · exact HU2.out.setCell (p := ⟨w.heap.size + 1 + 1 + 1, 0, none⟩) (by simp; omega) _

theorem RemapParts_yes (A : Option Addr) (c : Nat) (T P : List Rec) (Ax : Option Addr) (x : List Int) (cx : Nat) (fl st : Int) (w : World) (hP : T.take 150 = P) (hT : Table w A T) (hW : ∀ x ∈ T, x.Wf) (hc : T.length ≤ c) (he : (checkE P).2 = 0)
    (hI1 : Ints .i32 w Ax x) (hx1 : x.length < 4611686018427387904) (hc1 : x.length ≤ cx) (hwf1 : ∀ z ∈ x, (Lit.int .i32 z).wf = true) :
    Calls Tryz.prog 12 #[.slice A T.length c, .slice Ax x.length cx, .int .i64 fl, .int .i64 st] w fun e w' => e = .returned (.bool true) ∧ Up w w' := by
  have HM : Aside0 (∀ w', Up w w' → _) := ⟨fun w' hu => Made_yes A c T P w' hP (hT.up hu) hW hc he⟩
  have hWP : ∀ x ∈ P, x.Wf := fun x hx => hW x (by rw [← hP] at hx; exact List.mem_of_mem_take hx)
  have HF := Aside0.mk (fine_of hWP he)
  have HG := Aside0.mk (fine_of hWP he).toGood
  have HWP := Aside0.mk hWP
  have HPT : Aside0 (P.length ≤ 4096) := ⟨by rw [← hP, List.length_take]; omega⟩
  have HI1 := Aside0.mk hI1
  have HX1 := Aside0.mk hx1
  have HXC1 := Aside0.mk hc1
  have HWF1 := Aside0.mk hwf1
  clear hI1 hx1 hc1 hwf1
  obtain ⟨s, hs⟩ : ∃ s, x.take 60 = s := ⟨_, rfl⟩
  have hsl : s.length ≤ 60 := by rw [← hs, List.length_take]; omega
  have HSL : Aside0 (s.length ≤ 60) := ⟨hsl⟩
  have HSK : Aside0 (s.length ≤ 100000) := ⟨by omega⟩
  have HSW : Aside0 (∀ z ∈ s, (Lit.int .i32 z).wf = true) := ⟨fun z hz => HWF1.out z (by rw [← hs] at hz; exact List.mem_of_mem_take hz)⟩
  have HS := Aside0.mk hs
  have HSX : Aside0 (s.length ≤ x.length) := ⟨by rw [← hs, List.length_take]; omega⟩
  have HXS : Aside0 (Ints .i32 w Ax s) := ⟨by rw [← hs]; exact ints_take15 HI1.out 60⟩
  have HU0 : Aside0 (∀ a b d e : Obj, Up w ((((w.alloc a).alloc b).alloc d).alloc e)) := ⟨fun a b d e => up_alloc (up_alloc (up_alloc (up_alloc (up_refl w) a) b) d) e⟩
  have HBX : Aside0 (Boxed ((((w.alloc (.cells #[.slice Ax x.length cx] 23)).alloc (.cells #[.int .i64 fl] 3)).alloc (.cells #[.int .i64 st] 3)).alloc (.cells #[.bool false] 4)) w.heap.size 23 (.slice Ax x.length cx) ∧ Boxed ((((w.alloc (.cells #[.slice Ax x.length cx] 23)).alloc (.cells #[.int .i64 fl] 3)).alloc (.cells #[.int .i64 st] 3)).alloc (.cells #[.bool false] 4)) (w.heap.size + 1) 3 (.int .i64 fl) ∧ Boxed ((((w.alloc (.cells #[.slice Ax x.length cx] 23)).alloc (.cells #[.int .i64 fl] 3)).alloc (.cells #[.int .i64 st] 3)).alloc (.cells #[.bool false] 4)) (w.heap.size + 1 + 1) 3 (.int .i64 st) ∧ Boxed ((((w.alloc (.cells #[.slice Ax x.length cx] 23)).alloc (.cells #[.int .i64 fl] 3)).alloc (.cells #[.int .i64 st] 3)).alloc (.cells #[.bool false] 4)) (w.heap.size + 1 + 1 + 1) 4 (.bool false)) := ⟨by
    refine ⟨(((Boxed.new w 23 (.slice Ax x.length cx)).alloc _).alloc _).alloc _, ?_, ?_, ?_⟩
    · have := ((Boxed.new (w.alloc (.cells #[.slice Ax x.length cx] 23)) 3 (.int .i64 fl)).alloc (.cells #[.int .i64 st] 3)).alloc (.cells #[.bool false] 4)
      simpa only [World.size_alloc] using this
    · have := (Boxed.new ((w.alloc (.cells #[.slice Ax x.length cx] 23)).alloc (.cells #[.int .i64 fl] 3)) 3 (.int .i64 st)).alloc (.cells #[.bool false] 4)
      simpa only [World.size_alloc] using this
    · have := Boxed.new (((w.alloc (.cells #[.slice Ax x.length cx] 23)).alloc (.cells #[.int .i64 fl] 3)).alloc (.cells #[.int .i64 st] 3)) 4 (.bool false)
      simpa only [World.size_alloc] using this⟩
  clear hT hW hc he hWP hP hs hsl
  refine (callsIn_wide (n := 12)).1 ?_
  refine callsIn_of_wp_marks Tryz.func12 rfl trivial ?_ rfl
  simp only [Tryz.ntmps12, List.size_toArray, List.length_cons, List.length_nil, Nat.reduceAdd, Nat.reduceSub, Array.replicate_succ, Array.replicate_zero, List.push_toArray, List.append_toArray, List.nil_append, List.cons_append]
  gi_wp2_with (first | (refine ⟨trivial, ?_⟩; gi_at_call 69; (with_reducible refine (callsIn_wide.2 (Parts_calls bd A2 c2 s fl _ (HI2.out.up (up_alloc (up_refl w2) _)) HSK.out)).mono ?_); rintro e w3 ⟨b7, b3, b5, Ay, cy, rfl, hb7, hb3, hb5, hAy, hc7, hiy, hc3, hc5, hup3⟩; have H3 := Aside0.mk (And.intro hb7 (And.intro hb3 (And.intro hb5 hAy))); have HP3 := Aside0.mk (And.intro hc7 (And.intro hiy (And.intro hc3 hc5))); have HU3 := Aside0.mk hup3; clear hb7 hb3 hb5 hAy hc7 hiy hc3 hc5 hup3 x3) | (refine ⟨trivial, ?_⟩; gi_at_call 62; (with_reducible refine (callsIn_wide.2 (few15_at Ax cx x s 60 60 rfl _ (HI1.out.up (up_trans (HU0.out _ _ _ _) (up_alloc HU1.out _))) HX1.out HXC1.out (by decide) HS.out)).mono ?_); rintro e w2 ⟨v2, rfl, hown2, hup2⟩; obtain ⟨A2, c2, rfl, hi2, _⟩ := own_ints hown2; have HU2 := Aside0.mk hup2; have HO2 := Aside0.mk hown2; have HI2 := Aside0.mk hi2; have bf := (boxed_up ((boxed_up HBX.out.2.1 HU1.out).alloc _) hup2).alloc (.cells #[.slice A2 s.length c2] 23); have x3 := bf.cell; clear hown2 hup2 hi2 bf x1) | (refine ⟨trivial, ?_⟩; gi_at_call 20; (with_reducible refine (callsIn_wide.2 (HM.out _ (HU0.out _ _ _ _))).mono ?_); rintro e w1 ⟨bd, D, A3, c3, rfl, hD, hTab, hup1⟩; have HD := Aside0.mk hD; have HT := Aside0.mk hTab; have HU1 := Aside0.mk hup1; have bx := (boxed_up HBX.out.1 hup1).alloc (.cells #[.slice A3 P.length c3] 25); have x1 := bx.cell; clear hD hTab hup1 bx))
  obtain ⟨wa, hwa⟩ : ∃ wa, wa = w3 := ⟨_, rfl⟩
  subst hwa
  have SZ1 : w.heap.size + 4 ≤ w1.heap.size := by have := HU1.out.size; simp only [World.size_alloc] at this; omega
  have SZ2 : w1.heap.size + 1 ≤ w2.heap.size := by have := HU2.out.size; simp only [World.size_alloc] at this; omega
  have SZ3 : w2.heap.size + 1 ≤ wa.heap.size := by have := HU3.out.size; simp only [World.size_alloc] at this; omega
  have SZ := Aside0.mk (And.intro SZ1 (And.intro SZ2 SZ3))
  have UPA : Aside0 (Up w1 wa) := ⟨up_trans (up_alloc (up_refl w1) _) (up_trans HU2.out (up_trans (up_alloc (up_refl w2) _) HU3.out))⟩
  have UPW : Aside0 (Up w wa) := ⟨up_trans (HU0.out _ _ _ _) (up_trans HU1.out UPA.out)⟩
  have E4 : Aside0 (Boxed wa w.heap.size 23 (.slice Ax x.length cx) ∧ Boxed wa (w.heap.size + 1) 3 (.int .i64 fl) ∧ Boxed wa (w.heap.size + 1 + 1) 3 (.int .i64 st) ∧ Boxed wa (w.heap.size + 1 + 1 + 1) 4 (.bool false)) :=
    ⟨boxed_up HBX.out.1 (up_trans HU1.out UPA.out), boxed_up HBX.out.2.1 (up_trans HU1.out UPA.out), boxed_up HBX.out.2.2.1 (up_trans HU1.out UPA.out), boxed_up HBX.out.2.2.2 (up_trans HU1.out UPA.out)⟩
  have E5 : Aside0 (Boxed wa w1.heap.size 25 (.slice A3 P.length c3)) := ⟨boxed_up (Boxed.new w1 _ _) (up_trans HU2.out (up_trans (up_alloc (up_refl w2) _) HU3.out))⟩
  have E6 : Aside0 (Boxed wa w2.heap.size 23 (.slice A2 s.length c2)) := ⟨boxed_up (Boxed.new w2 _ _) HU3.out⟩
  have HENV : Aside0 (∀ W, Chg (PM (w.heap.size + 1 + 1) (w1.heap.size + 1) w2.heap.size wa.heap.size) wa W → (Boxed W w.heap.size 23 (.slice Ax x.length cx) ∧ Boxed W (w.heap.size + 1) 3 (.int .i64 fl) ∧ Boxed W (w.heap.size + 1 + 1 + 1) 4 (.bool false) ∧ Boxed W w1.heap.size 25 (.slice A3 P.length c3) ∧ Boxed W w2.heap.size 23 (.slice A2 s.length c2)) ∧
      PartsAt (w.heap.size + 4) bd b7 b3 b5 D P fl Ay cy s W ∧ Table W A3 P ∧ Ints .i32 W Ax s ∧ Up w W) := ⟨by
    intro W hc
    obtain ⟨h7, h3, h5, hy⟩ := H3.out
    obtain ⟨p7, pi, p3, p5⟩ := HP3.out
    simp only [World.size_alloc] at h7 h3 h5 hy
    have l7 := cell_lt p7
    have l3 := cell_lt p3
    have l5 := cell_lt p5
    have n0 : ∀ b, b < w1.heap.size + 1 → b ≠ w.heap.size + 1 + 1 → ¬ PM (w.heap.size + 1 + 1) (w1.heap.size + 1) w2.heap.size wa.heap.size b := fun b h1 h2 h => by rcases h with h | h | h <;> omega
    have n1 : ∀ b, w2.heap.size ≤ b → b < wa.heap.size → ¬ PM (w.heap.size + 1 + 1) (w1.heap.size + 1) w2.heap.size wa.heap.size b := fun b h1 h2 h => by rcases h with h | h | h <;> omega
    have hM : ∀ k, PM (w.heap.size + 1 + 1) (w1.heap.size + 1) w2.heap.size wa.heap.size k → k = w.heap.size + 1 + 1 ∨ w1.heap.size ≤ k := fun k h => by rcases h with h | h | h <;> omega
    have hu : Up w W := Below.trans UPW.out (hc.below UPW.out.size (fun k h => by rcases hM k h with h | h <;> omega))
    have hc1 : Chg (fun k => k = w.heap.size + 1 + 1 ∨ w1.heap.size ≤ k) w1 W := (Chg.of_up UPA.out).trans hc (fun k h => .inl (hM k h))
    have hH : ∀ k, (k = w.heap.size + 1 + 1 ∨ w1.heap.size ≤ k) → k < w.heap.size + 4 ∨ w1.heap.size ≤ k := fun k h => by rcases h with h | h <;> omega
    have hD4 : DataAt (w.heap.size + 4) w1 bd D P := by have := HD.out; simp only [World.size_alloc] at this; exact this
    have hT4 : TabFrom (w.heap.size + 4) w1 A3 P := by have := HT.out; simp only [World.size_alloc] at this; exact this
    refine ⟨⟨boxed_chg E4.out.1 hc (n0 _ (by omega) (by omega)), boxed_chg E4.out.2.1 hc (n0 _ (by omega) (by omega)), boxed_chg E4.out.2.2.2 hc (n0 _ (by omega) (by omega)), boxed_chg E5.out hc (n0 _ (by omega) (by omega)), boxed_chg E6.out hc (n1 _ (by omega) (by omega))⟩,
      ⟨cell_chg p7 hc (n1 _ (by omega) l7), ?_, cell_chg p3 hc (n1 _ (by omega) l3), cell_chg p5 hc (n1 _ (by omega) l5), hD4.chg hc1 hH⟩, (hT4.chg hc1 hH).table, HXS.out.up hu, hu⟩
    intro i u hi
    obtain ⟨ad, he, hcc⟩ := pi i u hi
    have h1 := cell_lt hcc
    have h2 := hy _ he
    rw [add_block] at h1
    exact ⟨ad, he, (World.cell?_of_block (hc.block _ (by rw [add_block]; exact h1) (by rw [add_block]; exact n1 _ (by omega) h1))).trans hcc⟩⟩
  have HA2 : Aside0 (∀ ad, A2 = some ad → w1.heap.size + 1 ≤ ad.block ∧ ad.block < w2.heap.size) := ⟨fun ad ha => by have := own_lt_some HO2.out ha; simp only [World.size_alloc] at this; exact this⟩
  have HOA : Aside0 (wa.ownsRow (w1.heap.size + 1) 21 1 (.slice A2 s.length c2) s.length (s.map (Value.int .i32))) := ⟨by have := own_up HO2.out (up_trans (up_alloc (up_refl w2) (.cells #[.slice A2 s.length c2] 23)) HU3.out); simp only [World.size_alloc] at this; exact this⟩
  clear SZ1 SZ2 SZ3
  gi_loopw [14] (fun v14 wr => ∃ (k : Nat) (l' : List Int), k ≤ s.length ∧ v14 = .int .i64 k ∧ Aside0 (l'.length = s.length) ∧ Aside0 (wr.ownsRow (w1.heap.size + 1) 21 1 (.slice A2 s.length c2) s.length (l'.map (Value.int .i32))) ∧ Aside0 (Chg (PM (w.heap.size + 1 + 1) (w1.heap.size + 1) w2.heap.size wa.heap.size) wa wr) ∧ Aside0 (Boxed wr (w.heap.size + 1 + 1) 3 (.int .i64 st))) (fun v _ => s.length - (intOf v).toNat)
  case atStart => exact ⟨0, s, Nat.zero_le _, rfl, ⟨rfl⟩, HOA, ⟨Chg.refl _ _⟩, ⟨E4.out.2.2.1⟩⟩
  case round =>
    obtain ⟨k, l', hk, rfl, HLL, HOQ, HC, HST⟩ := hrel
    have g6 := (HENV.out _ HC.out).1.2.2.2.2.cell
    have hs60 := HSL.out
    by_cases hlt : k < s.length
    · obtain ⟨g, hg, hge⟩ := own_some HOQ.out (by omega)
      have HGE := Aside0.mk (And.intro hge (HA2.out _ hg).2)
      subst hg
      obtain ⟨y1, y2⟩ := own_at HOQ.out hlt
      clear hge
      gi_wp2
      go_roundw
      case rel => exact ⟨k + 1, l'.set k 65, by omega, by simp, ⟨by rw [List.length_set]; exact HLL.out⟩, ⟨own_put HOQ.out k 65⟩, ⟨HC.out.trans (M' := PM (w.heap.size + 1 + 1) (w1.heap.size + 1) w2.heap.size wa.heap.size) (Chg.of_set wr ⟨g, k, none⟩ _ (.inr (.inl HGE.out))) (fun k e => .inl e)⟩, ⟨(Below.heap_setCell wr ⟨g, k, none⟩ _ _ (by have := HGE.out; have := SZ.out; show w.heap.size + 1 + 1 ≠ g; omega)).trans HST.out⟩⟩
      case measure => simp [intOf]; omega
    · obtain rfl : k = s.length := by omega
      obtain ⟨st2, hst2⟩ : ∃ st2 : Nat, bits .and .i64 st 63 = (st2 : Int) := ⟨(st % 64).toNat, by rw [i64_and63]; omega⟩
      have s1 := HST.out.cell
      have s2 := HST.out.frozen
      obtain ⟨wb, hwb⟩ : ∃ wb, wb = wr := ⟨_, rfl⟩
      subst hwb
      have HJJ : Aside0 (wa.heap.size ≤ wb.heap.size) := ⟨HC.out.size⟩
      gi_wp2
      have HB0 : Aside0 (Boxed ((wb.setCell ⟨w.heap.size + 1 + 1, 0, none⟩ (.int .i64 st2)).alloc (.cells #[.int .i64 0] 3)) (w.heap.size + 1 + 1) 3 (.int .i64 st2)) := ⟨(HST.out.set _).alloc _⟩
      have HB1 : Aside0 (Boxed ((wb.setCell ⟨w.heap.size + 1 + 1, 0, none⟩ (.int .i64 st2)).alloc (.cells #[.int .i64 0] 3)) wb.heap.size 3 (.int .i64 0)) := ⟨by
        have := Boxed.new (wb.setCell ⟨w.heap.size + 1 + 1, 0, none⟩ (.int .i64 st2)) 3 (.int .i64 0)
        rwa [show (wb.setCell ⟨w.heap.size + 1 + 1, 0, none⟩ (.int .i64 (st2 : Int))).heap.size = wb.heap.size by simp [World.setCell]] at this⟩
      have HCB : Aside0 (Chg (PM (w.heap.size + 1 + 1) (w1.heap.size + 1) w2.heap.size wa.heap.size) wa ((wb.setCell ⟨w.heap.size + 1 + 1, 0, none⟩ (.int .i64 st2)).alloc (.cells #[.int .i64 0] 3))) := ⟨chg_up (chg_set HC.out _ _ (.inl rfl)) (up_alloc (up_refl _) _)⟩
      obtain ⟨wc, hwc⟩ : ∃ wc, (wb.setCell ⟨w.heap.size + 1 + 1, 0, none⟩ (.int .i64 (st2 : Int))).alloc (.cells #[.int .i64 0] 3) = wc := ⟨_, rfl⟩
      rw [hwc] at HB0 HB1 HCB ⊢
      have HSC : Aside0 (wb.heap.size + 1 ≤ wc.heap.size) := ⟨HB1.out.lt⟩
      clear hwc s1 s2 g6 hst2
      refine wpIn_rangeR (gf := 108) (lb := #[.pointer (some ⟨b7, 0, none⟩), .pointer (some ⟨b3, 0, none⟩), .pointer (some ⟨b5, 0, none⟩)]) rfl (enters_of Tryz.func108 (by kernel_rfl) rfl)
        (Parts1_iter 11 (by decide) (w.heap.size + 4) bd b7 b3 b5 D P fl Ay cy s HG.out HSW.out HSK.out) (fun _ _ => rfl)
        (P1I (PM (w.heap.size + 1 + 1) (w1.heap.size + 1) w2.heap.size wa.heap.size) wa (w.heap.size + 1 + 1) wb.heap.size st2) (P1X (PM (w.heap.size + 1 + 1) (w1.heap.size + 1) w2.heap.size wa.heap.size) wa (w.heap.size + 1 + 1) wb.heap.size st2 s.length) (fun k W h => (HENV.out W h.1).2.1) (P1I.grows _ _ _ _ _) (P1I.turns _ _ _ _ _ _ (by have := HSC.out; have := HJJ.out; omega) (by have := HSC.out; have := HJJ.out; have := SZ.out; omega) HSC.out) (P1X.turns _ _ _ _ _ _ _ (by have := HSC.out; have := HJJ.out; omega) (by have := HSC.out; have := HJJ.out; have := SZ.out; omega) HSC.out)
        ⟨HCB.out, HB1.out, HB0.out, Nat.zero_le _⟩ ?round ?done ?stop
      case round =>
        rintro l k v W Wb W0 hk ⟨hc0, hj0, hst0, hle⟩ hu hgv
        have hgv : Given (oneF P fl (rd s k)) v W0.heap.size Wb := hgv
        gi_wp2
        refine ⟨trivial, ?_⟩
        have HC0 := Aside0.mk hc0
        have HJ0 := Aside0.mk hj0
        have HUB := Aside0.mk hu
        have HC := Aside0.mk (chg_up hc0 hu)
        have HJ := Aside0.mk (boxed_up hj0 hu)
        have j1 := HJ.out.cell
        have j2 := HJ.out.frozen
        have HS0 := Aside0.mk hst0
        have t1 := (boxed_up hst0 hu).cell
        have HLE := Aside0.mk hle
        have HK := Aside0.mk hk
        obtain ⟨p, hp⟩ : ∃ p, oneF P fl (rd s k) = p := ⟨_, rfl⟩
        rw [hp] at hgv
        obtain ⟨Av, cv, hv, hiv, _⟩ := own_ints hgv
        subst hv
        have HGV : Aside0 (Wb.ownsRow W0.heap.size 21 1 (.slice Av p.length cv) p.length (p.map (Value.int .i32))) := ⟨hgv⟩
        have HIV := Aside0.mk hiv
        have HP := Aside0.mk hp
        have HPL : Aside0 (p.length ≤ 24) := ⟨by rw [← hp]; exact oneF_len24 HG.out fl _⟩
        have HPB : Aside0 (p.length ≤ 35184372087808) := ⟨by have := HPL.out; omega⟩
        have HPP : Aside0 ((p == p) = true) := ⟨by simp⟩
        clear hp hiv hgv hc0 hj0 hu
        clear hst0 hle
        obtain ⟨⟨e1, e2, _, e5, e6⟩, hpa, htb, hix, _⟩ := HENV.out _ HC.out
        have x1 := e1.cell
        have x2 := e2.cell
        have x5 := e5.cell
        have x6 := e6.cell
        have HTB := Aside0.mk htb
        have HIX := Aside0.mk hix
        clear e1 e2 e5 e6 hpa htb hix
        have hs60 := HSL.out
        have h7 : 0 ≤ (k : Int) := by omega
        have h9 : (k : Int) < (s.length : Int) := by omega
        have h8 : (k : Int) < (x.length : Int) := by have := HSX.out; omega
        obtain ⟨ad, hA, hca⟩ := HIX.out.at_ k h7 h9
        rw [Int.toNat_natCast] at hca
        cases hA
        have HAR : Aside0 (-2147483648 ≤ rd s k ∧ rd s k ≤ 2147483647) := ⟨rd_wf HSW.out k⟩
        have hge : ¬ ((s.length : Int) ≤ (k : Int)) := by omega
        have hge2 : ¬ (s.length ≤ k) := by omega
        by_cases hkst : k = st2
        · subst hkst
          gi_wp2
          exact ⟨KeepsOthers.refl _, rfl, HK.out, HC.out, HJ.out, boxed_up HS0.out HUB.out⟩
        · have hk1 : ((k : Int) == (st2 : Int)) = false := beq_eq_false_iff_ne.mpr (by omega)
          have HKST := Aside0.mk hkst
          gi_wp2_with (first | (refine ⟨trivial, ?_⟩; gi_at_call 68; (with_reducible refine (CallsIn.inRound l (callsIn_wide.2 (ROne_calls A3 c3 P (rd s k) fl _ HTB.out HG.out.right HWP.out HPT.out p HP.out HAR.out.1 HAR.out.2))).mono ?_); rintro e w8 ⟨v8, rfl, hown8, hup8⟩; obtain ⟨A8, c8, rfl, hi8, _⟩ := own_ints hown8; have HN8 := Aside0.mk hup8; have HI8 := Aside0.mk hi8; clear hown8 hup8 hi8) | (refine ⟨trivial, ?_⟩; gi_at_call 30; (with_reducible refine (CallsIn.inRound l (callsIn_wide.2 (SameB_calls Av A8 cv c8 p p _ (HIV.out.up HN8.out) HI8.out HPB.out HPB.out true HPP.out))).mono ?_); rintro e w9 ⟨rfl, hup9⟩; have HN9 := Aside0.mk (up_trans HN8.out hup9); have bj := boxed_up HJ.out HN9.out; have j3 := bj.cell; have j4 := bj.frozen; clear hup9 bj))
          obtain ⟨wf, hwf⟩ : ∃ wf, wf = w9 := ⟨_, rfl⟩
          subst hwf
          have HUF : Aside0 (Up W0 wf) := ⟨up_trans HUB.out HN9.out⟩
          have HOF : Aside0 (wf.ownsRow W0.heap.size 21 1 (.slice Av p.length cv) p.length (p.map (Value.int .i32))) := ⟨own_up HGV.out HN9.out⟩
          have HKF : Aside0 (KeepsOthers Wb wf) := ⟨ko_up HN9.out⟩
          have hpl := HPL.out
          clear j1 j2 j3 j4 t1 x1 x2 x5 x6 hca
          gi_loopw [18] (fun v18 wr => ∃ (q : Nat) (l' : List Int), q ≤ p.length ∧ v18 = .int .i64 q ∧ Aside0 (l'.length = p.length) ∧ Aside0 (wr.ownsRow W0.heap.size 21 1 (.slice Av p.length cv) p.length (l'.map (Value.int .i32))) ∧ Aside0 (Up W0 wr) ∧ Aside0 (KeepsOthers Wb wr)) (fun v _ => p.length - (intOf v).toNat)
          case atStart => exact ⟨0, p, Nat.zero_le _, rfl, ⟨rfl⟩, HOF, HUF, HKF⟩
          case round =>
            obtain ⟨q, l', hq, rfl, HLQ, HOQ, HUQ, HKQ⟩ := hrel
            by_cases hlt : q < p.length
            · obtain ⟨g, hg, hge⟩ := own_some HOQ.out (by omega)
              have HGE := Aside0.mk hge
              subst hg
              obtain ⟨y1, y2⟩ := own_at HOQ.out hlt
              clear hge
              gi_wp2
              go_roundw
              case rel => exact ⟨q + 1, l'.set q (-9), by omega, by simp, ⟨by rw [List.length_set]; exact HLQ.out⟩, ⟨own_put HOQ.out q (-9)⟩, ⟨HUQ.out.setCell (p := ⟨g, q, none⟩) HGE.out _⟩, ⟨HKQ.out.trans (KeepsOthers.setCell _ _ _)⟩⟩
              case measure => simp [intOf]; omega
            · obtain rfl : q = p.length := by omega
              have bj := boxed_up HJ0.out HUQ.out
              have j1 := bj.cell
              have j2 := bj.frozen
              clear bj
              gi_wp2
              exact ⟨HKQ.out.trans (KeepsOthers.setCell _ _ _), chg_set (chg_up HC0.out HUQ.out) _ _ (.inr (.inr HJJ.out)), by
                have := (boxed_up HJ0.out HUQ.out).set (.int .i64 ((k : Int) + 1))
                simpa using this, boxed_set (boxed_up HS0.out HUQ.out) _ _ (by have := HJJ.out; have := SZ.out; omega), by have := HLE.out; have := HKST.out; omega⟩
      case done =>
        rintro D1 W hD1 ⟨hc, hj, hst, hle⟩ hK
        have hm1 : min (st2 : Int) (s.length : Int) = (s.length : Int) := by omega
        have HKD := Aside0.mk ((KeepsOthers.setCell W ⟨wb.heap.size, 0, none⟩ (.int .i64 0)).same D1 _ hK rfl)
        have HC2 := Aside0.mk (chg_set hc wb.heap.size (.int .i64 0) (.inr (.inr HJJ.out)))
        have HJ2 := Aside0.mk (hj.set (.int .i64 0))
        obtain ⟨⟨_, _, _, _, e6⟩, _⟩ := HENV.out _ hc
        have j1 := hj.cell
        have j2 := hj.frozen
        have t1 := hst.cell
        have x6 := e6.cell
        clear e6
        gi_wp2
        obtain ⟨wd, hwd⟩ : ∃ wd, W.setCell ⟨wb.heap.size, 0, none⟩ (.int .i64 0) = wd := ⟨_, rfl⟩
        rw [hwd] at HKD HC2 HJ2 ⊢
        have HB2 : Aside0 (wb.heap.size + 1 ≤ wd.heap.size ∧ D1 < wd.heap.size) := ⟨HJ2.out.lt, (Array.getElem?_eq_some_iff.1 HKD.out).1⟩
        clear hwd hK hc hj hst j1 j2 t1 x6
        refine wpIn_rangeR (gf := 108) (lb := #[.pointer (some ⟨b7, 0, none⟩), .pointer (some ⟨b3, 0, none⟩), .pointer (some ⟨b5, 0, none⟩)]) rfl (enters_of Tryz.func108 (by kernel_rfl) rfl)
          (Parts1_iter 11 (by decide) (w.heap.size + 4) bd b7 b3 b5 D P fl Ay cy s HG.out HSW.out HSK.out) (fun _ _ => rfl)
          (P2I (PM (w.heap.size + 1 + 1) (w1.heap.size + 1) w2.heap.size wa.heap.size) wa wb.heap.size D1) (fun _ _ => False) (fun k W h => (HENV.out W h.1).2.1) (P2I.grows _ _ _ _) (P2I.turns _ _ _ _ _ (by have := HB2.out; have := HJJ.out; omega) HB2.out.2 HB2.out.1) (fun _ _ _ _ _ h _ _ _ => h)
          ⟨HC2.out, HJ2.out, HKD.out⟩ ?round2 ?done2 ?stop2
        case round2 =>
          rintro l k v W Wb W0 hk ⟨hc0, hj0, hD0⟩ hu hgv
          have hgv : Given (oneF P fl (rd s k)) v W0.heap.size Wb := hgv
          gi_wp2
          refine ⟨trivial, ?_⟩
          have HC0 := Aside0.mk hc0
          have HJ0 := Aside0.mk hj0
          have HUB := Aside0.mk hu
          have HC := Aside0.mk (chg_up hc0 hu)
          have HJ := Aside0.mk (boxed_up hj0 hu)
          have j1 := HJ.out.cell
          have j2 := HJ.out.frozen
          have HD0 := Aside0.mk hD0
          have HK := Aside0.mk hk
          obtain ⟨p, hp⟩ : ∃ p, oneF P fl (rd s k) = p := ⟨_, rfl⟩
          rw [hp] at hgv
          obtain ⟨Av, cv, hv, hiv, _⟩ := own_ints hgv
          subst hv
          have HGV : Aside0 (Wb.ownsRow W0.heap.size 21 1 (.slice Av p.length cv) p.length (p.map (Value.int .i32))) := ⟨hgv⟩
          have HIV := Aside0.mk hiv
          have HP := Aside0.mk hp
          have HPL : Aside0 (p.length ≤ 24) := ⟨by rw [← hp]; exact oneF_len24 HG.out fl _⟩
          have HPB : Aside0 (p.length ≤ 35184372087808) := ⟨by have := HPL.out; omega⟩
          have HPP : Aside0 ((p == p) = true) := ⟨by simp⟩
          clear hp hiv hgv hc0 hj0 hu
          clear hD0
          obtain ⟨⟨e1, e2, _, e5, e6⟩, hpa, htb, hix, _⟩ := HENV.out _ HC.out
          have x1 := e1.cell
          have x2 := e2.cell
          have x5 := e5.cell
          have x6 := e6.cell
          have HTB := Aside0.mk htb
          have HIX := Aside0.mk hix
          clear e1 e2 e5 e6 hpa htb hix
          have hs60 := HSL.out
          have h7 : 0 ≤ (k : Int) := by omega
          have h9 : (k : Int) < (s.length : Int) := by omega
          have h8 : (k : Int) < (x.length : Int) := by have := HSX.out; omega
          obtain ⟨ad, hA, hca⟩ := HIX.out.at_ k h7 h9
          rw [Int.toNat_natCast] at hca
          cases hA
          have HAR : Aside0 (-2147483648 ≤ rd s k ∧ rd s k ≤ 2147483647) := ⟨rd_wf HSW.out k⟩
          have hge : ¬ ((s.length : Int) ≤ (k : Int)) := by omega
          have hge2 : ¬ (s.length ≤ k) := by omega
          gi_wp2_with (first | (refine ⟨trivial, ?_⟩; gi_at_call 68; (with_reducible refine (CallsIn.inRound l (callsIn_wide.2 (ROne_calls A3 c3 P (rd s k) fl _ HTB.out HG.out.right HWP.out HPT.out p HP.out HAR.out.1 HAR.out.2))).mono ?_); rintro e w8 ⟨v8, rfl, hown8, hup8⟩; obtain ⟨A8, c8, rfl, hi8, _⟩ := own_ints hown8; have HN8 := Aside0.mk hup8; have HI8 := Aside0.mk hi8; clear hown8 hup8 hi8) | (refine ⟨trivial, ?_⟩; gi_at_call 30; (with_reducible refine (CallsIn.inRound l (callsIn_wide.2 (SameB_calls Av A8 cv c8 p p _ (HIV.out.up HN8.out) HI8.out HPB.out HPB.out true HPP.out))).mono ?_); rintro e w9 ⟨rfl, hup9⟩; have HN9 := Aside0.mk (up_trans HN8.out hup9); have bj := boxed_up HJ.out HN9.out; have j3 := bj.cell; have j4 := bj.frozen; clear hup9 bj))
          exact ⟨(ko_up HN9.out).trans (KeepsOthers.setCell _ _ _), chg_set (chg_up HC.out HN9.out) _ _ (.inr (.inr HJJ.out)), by
            have := (boxed_up HJ.out HN9.out).set (.int .i64 ((k : Int) + 1))
            simpa using this, (KeepsOthers.setCell _ _ _).same _ _ (up_same HN9.out (up_same HUB.out HD0.out)) rfl⟩
        case stop2 =>
          rintro D2 c W hD2 h hK2
          exact h.elim
        case done2 =>
          rintro D2 W hD2 ⟨hc, hj, hK1⟩ hK2
          obtain ⟨⟨_, _, e3, _, e6⟩, _, _, _, hup⟩ := HENV.out _ hc
          have r1 := e3.cell
          have r2 := e3.frozen
          have x6 := e6.cell
          have j1 := hj.cell
          gi_wp2
          have z1 := HSC.out
          have z2 := HJJ.out
          have z3 := SZ.out
          have z4 := HB2.out
          have hk2 := (KeepsOthers.setCell W ⟨w.heap.size + 1 + 1 + 1, 0, none⟩ (.bool true)).same D2 _ hK2 rfl
          refine ⟨by simp, .inl ⟨_, _, rfl, run_takeDeferred hk2, ?_⟩⟩
          have hk1 : ((W.setCell ⟨w.heap.size + 1 + 1 + 1, 0, none⟩ (.bool true)).putObj D2 (.deferred none)).heap[D1]? = some (.deferred (some [])) := (World.putObj_heap_other (by omega)).trans ((KeepsOthers.setCell W ⟨w.heap.size + 1 + 1 + 1, 0, none⟩ (.bool true)).same D1 _ hK1 rfl)
          refine ⟨by simp, .inl ⟨_, _, rfl, run_takeDeferred hk1, ?_⟩⟩
          have rr := (boxed_put (boxed_put (e3.set (.bool true)) D2 (.deferred none) (by omega)) D1 (.deferred none) (by omega)).cell
          refine ⟨.bool true, ?_, rfl, ?_⟩
          · simp [results, Tryz.f12, go_sem, rr]
          · exact up_put (up_put (hup.setCell (p := ⟨w.heap.size + 1 + 1 + 1, 0, none⟩) (by show w.heap.size ≤ w.heap.size + 1 + 1 + 1; omega) _) _ _ (by omega)) _ _ (by omega)
      case stop =>
        rintro D1 c W hD1 ⟨rfl, hle, hc, hj, hst⟩ hK
        have hm1 : min (st2 : Int) (s.length : Int) = (st2 : Int) := by omega
        have HKD := Aside0.mk ((KeepsOthers.setCell W ⟨wb.heap.size, 0, none⟩ (.int .i64 0)).same D1 _ hK rfl)
        have HC2 := Aside0.mk (chg_set hc wb.heap.size (.int .i64 0) (.inr (.inr HJJ.out)))
        have HJ2 := Aside0.mk (hj.set (.int .i64 0))
        obtain ⟨⟨_, _, _, _, e6⟩, _⟩ := HENV.out _ hc
        have j1 := hj.cell
        have j2 := hj.frozen
        have t1 := hst.cell
        have x6 := e6.cell
        clear e6
        gi_wp2
        obtain ⟨wd, hwd⟩ : ∃ wd, W.setCell ⟨wb.heap.size, 0, none⟩ (.int .i64 0) = wd := ⟨_, rfl⟩
        rw [hwd] at HKD HC2 HJ2 ⊢
        have HB2 : Aside0 (wb.heap.size + 1 ≤ wd.heap.size ∧ D1 < wd.heap.size) := ⟨HJ2.out.lt, (Array.getElem?_eq_some_iff.1 HKD.out).1⟩
        clear hwd hK hc hj hst j1 j2 t1 x6
        refine wpIn_rangeR (gf := 108) (lb := #[.pointer (some ⟨b7, 0, none⟩), .pointer (some ⟨b3, 0, none⟩), .pointer (some ⟨b5, 0, none⟩)]) rfl (enters_of Tryz.func108 (by kernel_rfl) rfl)
          (Parts1_iter 11 (by decide) (w.heap.size + 4) bd b7 b3 b5 D P fl Ay cy s HG.out HSW.out HSK.out) (fun _ _ => rfl)
          (P2I (PM (w.heap.size + 1 + 1) (w1.heap.size + 1) w2.heap.size wa.heap.size) wa wb.heap.size D1) (fun _ _ => False) (fun k W h => (HENV.out W h.1).2.1) (P2I.grows _ _ _ _) (P2I.turns _ _ _ _ _ (by have := HB2.out; have := HJJ.out; omega) HB2.out.2 HB2.out.1) (fun _ _ _ _ _ h _ _ _ => h)
          ⟨HC2.out, HJ2.out, HKD.out⟩ ?round3 ?done3 ?stop3
        case round3 =>
          rintro l k v W Wb W0 hk ⟨hc0, hj0, hD0⟩ hu hgv
          have hgv : Given (oneF P fl (rd s k)) v W0.heap.size Wb := hgv
          gi_wp2
          refine ⟨trivial, ?_⟩
          have HC0 := Aside0.mk hc0
          have HJ0 := Aside0.mk hj0
          have HUB := Aside0.mk hu
          have HC := Aside0.mk (chg_up hc0 hu)
          have HJ := Aside0.mk (boxed_up hj0 hu)
          have j1 := HJ.out.cell
          have j2 := HJ.out.frozen
          have HD0 := Aside0.mk hD0
          have HK := Aside0.mk hk
          obtain ⟨p, hp⟩ : ∃ p, oneF P fl (rd s k) = p := ⟨_, rfl⟩
          rw [hp] at hgv
          obtain ⟨Av, cv, hv, hiv, _⟩ := own_ints hgv
          subst hv
          have HGV : Aside0 (Wb.ownsRow W0.heap.size 21 1 (.slice Av p.length cv) p.length (p.map (Value.int .i32))) := ⟨hgv⟩
          have HIV := Aside0.mk hiv
          have HP := Aside0.mk hp
          have HPL : Aside0 (p.length ≤ 24) := ⟨by rw [← hp]; exact oneF_len24 HG.out fl _⟩
          have HPB : Aside0 (p.length ≤ 35184372087808) := ⟨by have := HPL.out; omega⟩
          have HPP : Aside0 ((p == p) = true) := ⟨by simp⟩
          clear hp hiv hgv hc0 hj0 hu
          clear hD0
          obtain ⟨⟨e1, e2, _, e5, e6⟩, hpa, htb, hix, _⟩ := HENV.out _ HC.out
          have x1 := e1.cell
          have x2 := e2.cell
          have x5 := e5.cell
          have x6 := e6.cell
          have HTB := Aside0.mk htb
          have HIX := Aside0.mk hix
          clear e1 e2 e5 e6 hpa htb hix
          have hs60 := HSL.out
          have h7 : 0 ≤ (k : Int) := by omega
          have h9 : (k : Int) < (s.length : Int) := by omega
          have h8 : (k : Int) < (x.length : Int) := by have := HSX.out; omega
          obtain ⟨ad, hA, hca⟩ := HIX.out.at_ k h7 h9
          rw [Int.toNat_natCast] at hca
          cases hA
          have HAR : Aside0 (-2147483648 ≤ rd s k ∧ rd s k ≤ 2147483647) := ⟨rd_wf HSW.out k⟩
          have hge : ¬ ((s.length : Int) ≤ (k : Int)) := by omega
          have hge2 : ¬ (s.length ≤ k) := by omega
          gi_wp2_with (first | (refine ⟨trivial, ?_⟩; gi_at_call 68; (with_reducible refine (CallsIn.inRound l (callsIn_wide.2 (ROne_calls A3 c3 P (rd s k) fl _ HTB.out HG.out.right HWP.out HPT.out p HP.out HAR.out.1 HAR.out.2))).mono ?_); rintro e w8 ⟨v8, rfl, hown8, hup8⟩; obtain ⟨A8, c8, rfl, hi8, _⟩ := own_ints hown8; have HN8 := Aside0.mk hup8; have HI8 := Aside0.mk hi8; clear hown8 hup8 hi8) | (refine ⟨trivial, ?_⟩; gi_at_call 30; (with_reducible refine (CallsIn.inRound l (callsIn_wide.2 (SameB_calls Av A8 cv c8 p p _ (HIV.out.up HN8.out) HI8.out HPB.out HPB.out true HPP.out))).mono ?_); rintro e w9 ⟨rfl, hup9⟩; have HN9 := Aside0.mk (up_trans HN8.out hup9); have bj := boxed_up HJ.out HN9.out; have j3 := bj.cell; have j4 := bj.frozen; clear hup9 bj))
          exact ⟨(ko_up HN9.out).trans (KeepsOthers.setCell _ _ _), chg_set (chg_up HC.out HN9.out) _ _ (.inr (.inr HJJ.out)), by
            have := (boxed_up HJ.out HN9.out).set (.int .i64 ((k : Int) + 1))
            simpa using this, (KeepsOthers.setCell _ _ _).same _ _ (up_same HN9.out (up_same HUB.out HD0.out)) rfl⟩
        case stop3 =>
          rintro D2 c W hD2 h hK2
          exact h.elim
        case done3 =>
          rintro D2 W hD2 ⟨hc, hj, hK1⟩ hK2
          obtain ⟨⟨_, _, e3, _, e6⟩, _, _, _, hup⟩ := HENV.out _ hc
          have r1 := e3.cell
          have r2 := e3.frozen
          have x6 := e6.cell
          have j1 := hj.cell
          gi_wp2
          have z1 := HSC.out
          have z2 := HJJ.out
          have z3 := SZ.out
          have z4 := HB2.out
          have hk2 := (KeepsOthers.setCell W ⟨w.heap.size + 1 + 1 + 1, 0, none⟩ (.bool true)).same D2 _ hK2 rfl
          refine ⟨by simp, .inl ⟨_, _, rfl, run_takeDeferred hk2, ?_⟩⟩
          have hk1 : ((W.setCell ⟨w.heap.size + 1 + 1 + 1, 0, none⟩ (.bool true)).putObj D2 (.deferred none)).heap[D1]? = some (.deferred (some [])) := (World.putObj_heap_other (by omega)).trans ((KeepsOthers.setCell W ⟨w.heap.size + 1 + 1 + 1, 0, none⟩ (.bool true)).same D1 _ hK1 rfl)
          refine ⟨by simp, .inl ⟨_, _, rfl, run_takeDeferred hk1, ?_⟩⟩
          have rr := (boxed_put (boxed_put (e3.set (.bool true)) D2 (.deferred none) (by omega)) D1 (.deferred none) (by omega)).cell
          refine ⟨.bool true, ?_, rfl, ?_⟩
          · simp [results, Tryz.f12, go_sem, rr]
          · exact up_put (up_put (hup.setCell (p := ⟨w.heap.size + 1 + 1 + 1, 0, none⟩) (by show w.heap.size ≤ w.heap.size + 1 + 1 + 1; omega) _) _ _ (by omega)) _ _ (by omega)
end Go.Proofs.YthneeainigdmhaaGreat.M
