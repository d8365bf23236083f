/- order.sort's closure: a row of marks is put in order and written back. -/
import Derived.Test.YtnohcnneflogjaaGreatK41
import Derived.Test.YtnohcnneflogjaaGreatK38
import Derived.RangeFuncBox
import Derived.Test.YtnohcnneflogjaaGreatK36
set_option maxHeartbeats 8000000
set_option maxRecDepth 1000000
set_option linter.unusedVariables false
set_option linter.unusedSimpArgs false
namespace Go.Proofs.YtnohcnneflogjaaGreat.M.St
open Go.Shelf Go.RowKit Go.Lib Go.Sort
def putL : List Int → Nat → List Int → List Int
 | xs, _, [] => xs
 | xs, f, y :: ys => putL (xs.set f y) (f + 1) ys
theorem putL_snoc : ∀ (ys xs : List Int) (f : Nat) (y : Int), putL xs f (ys ++ [y]) = (putL xs f ys).set (f + ys.length) y
 | [], xs, f, y => by simp [putL]
 | z :: ys, xs, f, y => by
   rw [List.cons_append, putL, putL_snoc ys, putL, List.length_cons]
   congr 1
   omega
theorem putL_length : ∀ (ys xs : List Int) (f : Nat), (putL xs f ys).length = xs.length
 | [], _, _ => rfl
 | y :: ys, xs, f => by rw [putL, putL_length ys, List.length_set]
theorem sortM_any (base : Nat) (v : Value) (L : List (Int × Int)) (W : World) (hown : W.ownsRow base 149 2 v L.length (marksC L)) (hL : ∀ m ∈ L, 0 ≤ m.2 ∧ m.2 ≤ 255) (hlen : L.length ≤ 1073741824) :
 Calls Tryz.prog 129 #[v, .func (.func 130) #[] #[]] W fun e w' => e = .returned (.tuple #[]) ∧ w'.ownsRow base 149 2 v L.length (marksC (ordM L)) ∧ Chg (fun k => v.ownBlock = some k) W w' := by
 by_cases hv : v = .slice none 0 0
 ·subst hv
  refine (sortM_nil _ W).mono ?_
  rintro e w' ⟨rfl, rfl⟩
  have h0 : L = [] := by
   rcases hown.2 with ⟨_, h⟩ | ⟨g, cap, cur, h, _⟩
   ·exact List.eq_nil_of_length_eq_zero h
   ·cases h
  subst h0
  exact ⟨rfl, hown, Chg.refl _ _⟩
 ·exact sortM_calls base v L W hown hv hL hlen
theorem mark_cell {w : World} {base g cap n : Nat} {L : List (Int × Int)} (h : w.ownsRow base 149 2 (.slice (some ⟨g, 0, none⟩) n cap) n (marksC L)) {i : Nat} (hi : i < L.length) (hn : n = L.length) : w.cell? ⟨g, i * 2, none⟩ = some (.int .i32 (L[i]).1) := by
 obtain ⟨hlen, ⟨hv, _⟩ | ⟨g', cap', cur, hv, hb, hh, hnc, hcm, hsz, htk⟩⟩ := h
 ·cases hv
 ·cases hv
  rw [cell_of_row _ _ _ _ _ (0, 0) hh]
  have h2 := marksC_get L i 0 L[i] (List.getElem?_eq_getElem hi) (by decide)
  rw [← htk, Nat.add_zero, List.getElem?_take, if_pos (by omega)] at h2
  simpa using h2
theorem own_kinds {w : World} {b1 b2 s1 s2 n1 n2 : Nat} {e1 e2 : TypeId} {v1 v2 : Value} {x1 x2 : List Value} (h1 : w.ownsRow b1 e1 s1 v1 n1 x1) (h2 : w.ownsRow b2 e2 s2 v2 n2 x2) (he : e1 ≠ e2) : ∀ k, v1.ownBlock = some k → v2.ownBlock ≠ some k := by
 intro k hk1 hk2
 rcases h1.2 with ⟨rfl, _⟩ | ⟨g, cap, cur, rfl, _, hg, _⟩
 ·simp [Value.ownBlock] at hk1
 rcases h2.2 with ⟨rfl, _⟩ | ⟨g', cap', cur', rfl, _, hg', _⟩
 ·simp [Value.ownBlock] at hk2
 have e1' : g = k := by simpa [Value.ownBlock] using hk1
 have e2' : g' = k := by simpa [Value.ownBlock] using hk2
 subst e1' e2'
 rw [hg] at hg'
 simp at hg'
 exact he hg'.2
theorem boxed_chg {M : Nat → Prop} {w W : World} {b : Nat} {t : TypeId} {v : Value} (h : Boxed w b t v) (hc : Chg M w W) (hM : ¬ M b) : Boxed W b t v := (hc.block b h.lt hM).trans h
structure LaySt (base bx hr hx hf : Nat) (v : Value) (L : List (Int × Int)) (fr : Nat) (Ax : Option Addr) (n cx : Nat) (xs : List Int) (W : World) : Prop where
 box_r : Boxed W hr 146 v
 box_x : Boxed W hx 23 (.slice Ax n cx)
 box_f : Boxed W hf 3 (.int .i64 fr)
 row : W.ownsRow base 149 2 v L.length (marksC L)
 nums : W.ownsRow bx 21 1 (.slice Ax n cx) n (xs.map (Value.int .i32))
theorem own_some2 {w : World} {base n cap s : Nat} {e : TypeId} {A : Option Addr} {xs : List Value} (h : w.ownsRow base e s (.slice A n cap) n xs) (hn : 0 < n) : ∃ g, A = some ⟨g, 0, none⟩ := by
 obtain ⟨hlen, ⟨hv, h0⟩ | ⟨g', cap', cur, hv, hb, _⟩⟩ := h
 ·omega
 ·cases hv
  exact ⟨g', rfl⟩
theorem lay_calls (base bx hr hx hf : Nat) (v : Value) (L : List (Int × Int)) (fr : Nat) (Ax : Option Addr) (n cx : Nat) (xs : List Int) (W : World) (hS : LaySt base bx hr hx hf v L fr Ax n cx xs W) (h1 : hr ≠ hx) (h2 : hr ≠ hf)
 (hL : ∀ m ∈ L, 0 ≤ m.2 ∧ m.2 ≤ 255) (hlen : L.length ≤ 1073741824) (hfr : fr + L.length ≤ n) (hn : n ≤ 1073741824) :
 Calls Tryz.prog 128 #[.pointer (some ⟨hr, 0, none⟩), .pointer (some ⟨hx, 0, none⟩), .pointer (some ⟨hf, 0, none⟩)] W fun e w' => e = .returned (.tuple #[]) ∧ ∃ v', LaySt base bx hr hx hf v' [] fr Ax n cx (putL xs fr ((ordM L).map (·.1))) w' ∧ Chg (fun k => k = hr ∨ v.ownBlock = some k ∨ (Value.slice Ax n cx).ownBlock = some k) W w' := by
 obtain ⟨r1, r2, r3, r4, r5⟩ := hS
 obtain ⟨Ar, cr, hv⟩ := own_any r4
 subst hv
 have c1 := r1.cell
 have f1 := r1.frozen
 have HR := Az.mk r1
 have HX := Az.mk r2
 have HF := Az.mk r3
 have HM := Az.mk r4
 have HN := Az.mk r5
 have HL := Az.mk hL
 have HC := Az.mk (sortM_any base _ L W r4 hL hlen)
 clear r1 r2 r3 r4 r5 hL
 go_enter Tryz.func128, Tryz.ntmps128
 go_wp2_with (go_at_call 129; refine HC.out.mono ?_; rintro e w1 ⟨rfl, hown1, hch1⟩; have HM1 := Az.mk hown1; have HC1 := Az.mk hch1; clear hown1 hch1; have HR1 : Az (Boxed w1 hr 146 (.slice Ar L.length cr)) := ⟨boxed_chg HR.out HC1.out (fun e => HR.out.not_row (by decide) HM.out e.symm)⟩; have d1 := HR1.out.cell)
 have mixed : Tryz.prog.follows .mixedOrders = true := by kernel_rfl
 obtain ⟨ys, hys⟩ : ∃ ys, (ordM L).map (·.1) = ys := ⟨_, rfl⟩
 have hyl : ys.length = L.length := by rw [← hys, List.length_map, ordM_length]
 have hol : (ordM L).length = L.length := ordM_length L
 have HYS := Az.mk hys
 have hXl : xs.length = n := by
  have := HN.out.1
  simpa using this
 obtain ⟨M, hM⟩ : ∃ M : Nat → Prop, M = (fun k => k = hr ∨ (Value.slice Ar L.length cr).ownBlock = some k ∨ (Value.slice Ax n cx).ownBlock = some k) := ⟨_, rfl⟩
 have HMM := Az.mk hM
 have HYL := Az.mk hyl
 have HOL := Az.mk hol
 have HXL := Az.mk hXl
 have HX1 : Az (Boxed w1 hx 23 (.slice Ax n cx)) := ⟨boxed_chg HX.out HC1.out (fun e => HX.out.not_row (by decide) HM.out e.symm)⟩
 have HF1 : Az (Boxed w1 hf 3 (.int .i64 fr)) := ⟨boxed_chg HF.out HC1.out (fun e => HF.out.not_row (by decide) HM.out e.symm)⟩
 have HN1 : Az (w1.ownsRow bx 21 1 (.slice Ax n cx) n (xs.map (Value.int .i32))) := ⟨own_chg HN.out HC1.out (fun k hk => own_kinds HN.out HM.out (by decide) k hk)⟩
 have HCW : Az (Chg M W w1) := ⟨HC1.out.mono (fun k hk => by rw [HMM.out]; exact .inr (.inl hk))⟩
 clear hys hyl hol hM hXl c1 f1 d1
 go_loopg [8] L.length (fun j v8 wr => ∃ i : Nat, v8 = .int .i64 i ∧ Az (i + j = L.length) ∧ Az (Boxed wr hr 146 (.slice Ar L.length cr)) ∧ Az (Boxed wr hx 23 (.slice Ax n cx)) ∧ Az (Boxed wr hf 3 (.int .i64 fr)) ∧
  Az (wr.ownsRow base 149 2 (.slice Ar L.length cr) L.length (marksC (ordM L))) ∧ Az (wr.ownsRow bx 21 1 (.slice Ax n cx) n ((putL xs fr (ys.take i)).map (Value.int .i32))) ∧ Az (Chg M W wr))
 case atStart => exact ⟨0, rfl, ⟨Nat.zero_add _⟩, HR1, HX1, HF1, HM1, HN1, HCW⟩
 case round =>
  obtain ⟨i, rfl, HI, HBR, HBX, HBF, HOM, HON, HCH⟩ := hrel
  cases gk with
  | succ k2 =>
    have hi : i < L.length := by have := HI.out; omega
    have hlt : decide ((i : Int) < (L.length : Int)) = true := dTz (by omega)
    obtain ⟨p, hp⟩ : ∃ p, fr + i = p := ⟨_, rfl⟩
    have hpz : (fr : Int) + (i : Int) = (p : Int) := by omega
    have hpn : p < n := by omega
    have z1 : (p : Int) < (n : Int) := by omega
    have z2 : (i : Int) < (L.length : Int) := by omega
    have hwp : IntKind.i64.wrap (p : Int) = (p : Int) := by rw [IntKind.wrap_i64]; omega
    obtain ⟨gx, hgx⟩ := own_some2 HON.out (by omega)
    obtain ⟨g, hg⟩ := own_some2 HOM.out (by omega)
    subst hgx
    subst hg
    obtain ⟨y1, y2⟩ := own_at HON.out hpn
    have m1 := mark_cell HOM.out (i := i) (by rw [HOL.out]; exact hi) HOL.out.symm
    obtain ⟨c, hc⟩ : ∃ c, ((ordM L)[i]'(by rw [HOL.out]; exact hi)).1 = c := ⟨_, rfl⟩
    rw [hc] at m1
    have HSN : Az (putL xs fr (ys.take (i + 1)) = (putL xs fr (ys.take i)).set p c) := ⟨by
     have hiy : i < ys.length := by rw [HYL.out]; exact hi
     rw [List.take_add_one, List.getElem?_eq_getElem hiy, Option.toList_some, putL_snoc, List.length_take, Nat.min_eq_left (by omega), hp]
     congr 1
     rw [← hc]
     have e := HYS.out
     subst e
     simp⟩
    have b1 := HBR.out.cell
    have b2 := HBX.out.cell
    have b3 := HBF.out.cell
    clear hc hp
    go_wp2_with fail
    go_big_region_o
    all_goals go_wp2
    go_roundg k2
    case measure => omega
    case rel =>
     have hct : Chg M W (wr.setCell ⟨gx, p, none⟩ (.int .i32 c)).drew := by
      have h := HCH.out.trans (M' := M) (Chg.of_set wr ⟨gx, p, none⟩ (.int .i32 c) (by rw [HMM.out]; exact .inr (.inr rfl))) (fun k e => .inl e)
      exact ⟨h.os, h.tape, h.output, h.size, h.block⟩
     have hset : Chg (fun k => k = gx) wr (wr.setCell ⟨gx, p, none⟩ (.int .i32 c)).drew := by
      have h := Chg.of_set (M := fun k => k = gx) wr ⟨gx, p, none⟩ (.int .i32 c) rfl
      exact ⟨h.os, h.tape, h.output, h.size, h.block⟩
     have hput : (wr.setCell ⟨gx, p, none⟩ (.int .i32 c)).drew.ownsRow bx 21 1 (.slice (some ⟨gx, 0, none⟩) n cx) n ((putL xs fr (ys.take (i + 1))).map (Value.int .i32)) := by
      rw [HSN.out]
      exact own_put HON.out p c
     exact ⟨i + 1, by go_num, ⟨by have := HI.out; omega⟩, ⟨boxed_chg HBR.out hset (fun e => HBR.out.not_row (by decide) HON.out (by rw [e]; rfl))⟩, ⟨boxed_chg HBX.out hset (fun e => HBX.out.not_row (by decide) HON.out (by rw [e]; rfl))⟩,
      ⟨boxed_chg HBF.out hset (fun e => HBF.out.not_row (by decide) HON.out (by rw [e]; rfl))⟩, ⟨own_chg HOM.out hset (fun k hk e => own_kinds HOM.out HON.out (by decide) k hk (by rw [e]; rfl))⟩, ⟨hput⟩, ⟨hct⟩⟩
  | zero =>
    have hi : i = L.length := by have := HI.out; omega
    have hlt : decide ((i : Int) < (L.length : Int)) = false := dFz (by omega)
    have hlt1 : ¬ (i < L.length) := by omega
    have b1 := HBR.out.cell
    have b2 := HBR.out.frozen
    obtain ⟨A', c', W', hvv, hrun, hown', hchg'⟩ := clearM base _ L.length _ 0 wr HOM.out
    simp only [Value.slice.injEq] at hvv
    obtain ⟨rfl, _, rfl⟩ := hvv
    have HOW := Az.mk hown'
    have HCW' := Az.mk hchg'
    have HBR' : Az (Boxed W' hr 146 (.slice Ar L.length cr)) := ⟨boxed_chg HBR.out hchg' (fun e => HBR.out.not_row (by decide) HOM.out e.symm)⟩
    have HBX' : Az (Boxed W' hx 23 (.slice Ax n cx)) := ⟨boxed_chg HBX.out hchg' (fun e => HBX.out.not_row (by decide) HOM.out e.symm)⟩
    have HBF' : Az (Boxed W' hf 3 (.int .i64 fr)) := ⟨boxed_chg HBF.out hchg' (fun e => HBF.out.not_row (by decide) HOM.out e.symm)⟩
    clear hown' hchg'
    have d1 := HBR'.out.cell
    have d2 := HBR'.out.frozen
    have z0 : (0 : Int) ≤ (cr : Int) := by omega
    go_wp2
    go_end0
    have hM2 : Chg M W (W'.setCell ⟨hr, 0, none⟩ (.slice Ar 0 cr)) :=
     (HCH.out.trans (M' := fun k => (Value.slice Ar L.length cr).ownBlock = some k) HCW'.out (fun k e => .inl (by rw [HMM.out]; exact .inr (.inl e)))).trans (M' := M) (Chg.of_set W' ⟨hr, 0, none⟩ _ (by rw [HMM.out]; exact .inl rfl)) (fun k e => .inl e)
    have hN' : W'.ownsRow bx 21 1 (.slice Ax n cx) n ((putL xs fr ys).map (Value.int .i32)) := by
     have h := own_chg HON.out HCW'.out (fun k hk => own_kinds HON.out HOM.out (by decide) k hk)
     rwa [hi, ← HYL.out, List.take_length] at h
    have hset : Chg (fun k => k = hr) W' (W'.setCell ⟨hr, 0, none⟩ (.slice Ar 0 cr)) := Chg.of_set (M := fun k => k = hr) W' ⟨hr, 0, none⟩ _ rfl
    have e := HYS.out
    rw [e]
    rw [← HMM.out]
    exact ⟨rfl, .slice Ar 0 cr, ⟨HBR'.out.set _, boxed_chg HBX'.out hset (fun e => h1 e.symm), boxed_chg HBF'.out hset (fun e => h2 e.symm), own_chg HOW.out hset (fun k hk e => HBR'.out.not_row (by decide) HOW.out (by rw [hk, e])), own_chg hN' hset (fun k hk e => HBR'.out.not_row (by decide) hN' (by rw [hk, e]))⟩, hM2⟩
end Go.Proofs.YtnohcnneflogjaaGreat.M.St
namespace Go.Proofs.YtnohcnneflogjaaGreat.M.St
open Go.Shelf Go.RowKit Go.Lib Go.Sort
def runF (cl : Int → Int) : List Int → List (Int × Int) → List Int
 | [], row => (ordM row).map (·.1)
 | c :: t, row => if cl c = 0 then (ordM row).map (·.1) ++ c :: runF cl t [] else runF cl t (row ++ [(c, cl c)])
def sortF (T : List Rec) (x : List Int) : List Int := runF (numF T 2 (·.n)) x []
theorem runF_length (cl : Int → Int) : ∀ (x : List Int) (row : List (Int × Int)), (runF cl x row).length = row.length + x.length
 | [], row => by simp [runF, ordM_length]
 | c :: t, row => by
   unfold runF
   split
   ·rw [List.length_append, List.length_map, ordM_length, List.length_cons, runF_length cl t [], List.length_cons]
    simp
   ·rw [runF_length cl t, List.length_append, List.length_cons]
    simp
    omega
theorem set_mid (a b c : List Int) (z y : Int) : (a ++ z :: b ++ c).set a.length y = a ++ y :: b ++ c := by
 simp [List.set_append]
theorem putL_mid : ∀ (d b a c : List Int), d.length = b.length → putL (a ++ b ++ c) a.length d = a ++ d ++ c
 | [], b, a, c, h => by
   have hb : b = [] := List.eq_nil_of_length_eq_zero h.symm
   subst hb
   rfl
 | y :: d, [], a, c, h => by cases h
 | y :: d, z :: b, a, c, h => by
   have h' : d.length = b.length := by simpa using h
   have e := putL_mid d b (a ++ [y]) c h'
   rw [List.length_append, List.length_singleton] at e
   rw [putL, set_mid, show a ++ y :: b ++ c = (a ++ [y]) ++ b ++ c by simp, e]
   simp
theorem class_le {T : List Rec} (hG : Good T) (c : Int) : 0 ≤ numF T 2 (·.n) c ∧ numF T 2 (·.n) c ≤ 255 := by
 unfold numF
 cases hf : findR T 2 c with
 | none => exact ⟨Int.le_refl _, by decide⟩
 | some x =>
   obtain ⟨h1, h2⟩ := findR_some hf
   have hR := hG.right x h1
   unfold hitB at h2
   simp only [Bool.and_eq_true, decide_eq_true_eq] at h2
   have hk := h2.1
   have h := hR.kind
   have hft := hR.fits
   unfold fitsB at hft
   have hq : x.kind = 6 := by
    generalize x.kind = q at h hk
    rcases fam_cases h.1 h.2 with rfl | rfl | rfl | rfl | rfl | rfl | rfl | rfl | rfl | rfl | rfl | rfl | rfl | rfl | rfl <;> first | omega | (exfalso; revert hk; decide)
   simp [hq] at hft
   show 0 ≤ x.n ∧ x.n ≤ 255
   omega
theorem markInfo : (Tryz.prog.info? 149).map (fun i => (i.zero.map (fun z => z.cells.size), i.size, i.bytes)) = some (some 2, 2, 16) := by kernel_rfl
theorem mark_info : ∃ (i : TypeInfo) (z : Value), Tryz.prog.info? 149 = some i ∧ i.zero = some z ∧ i.size = 2 ∧ i.bytes = 16 ∧ z.cells.size = 2 := by
 have := markInfo
 cases hi : Tryz.prog.info? 149 with
 | none => rw [hi] at this; cases this
 | some i =>
   rw [hi] at this
   simp only [Option.map_some, Option.some.injEq, Prod.mk.injEq] at this
   obtain ⟨h1, h2, h3⟩ := this
   cases hz : i.zero with
   | none => rw [hz] at h1; cases h1
   | some z =>
     rw [hz] at h1
     exact ⟨i, z, rfl, hz, h2, h3, by simpa using h1⟩
theorem LaySt.up {base bx hr hx hf : Nat} {v : Value} {L : List (Int × Int)} {fr : Nat} {Ax : Option Addr} {n cx : Nat} {xs : List Int} {W W' : World} (h : LaySt base bx hr hx hf v L fr Ax n cx xs W) (hu : Up W W') : LaySt base bx hr hx hf v L fr Ax n cx xs W' :=
 have hc : Chg (fun _ => False) W W' := Chg.of_up hu
 ⟨boxed_chg h.box_r hc id, boxed_chg h.box_x hc id, boxed_chg h.box_f hc id, own_up h.row hu, own_up h.nums hu⟩
theorem LaySt.set_f {base bx hr hx hf : Nat} {v : Value} {L : List (Int × Int)} {fr : Nat} {Ax : Option Addr} {n cx : Nat} {xs : List Int} {W : World} (h : LaySt base bx hr hx hf v L fr Ax n cx xs W) (h1 : hr ≠ hf) (h2 : hx ≠ hf) (z : Nat) : LaySt base bx hr hx hf v L z Ax n cx xs (W.setCell ⟨hf, 0, none⟩ (.int .i64 z)) :=
 have hc : Chg (fun k => k = hf) W (W.setCell ⟨hf, 0, none⟩ (.int .i64 z)) := Chg.of_set (M := fun k => k = hf) W ⟨hf, 0, none⟩ _ rfl
 ⟨boxed_chg h.box_r hc h1, boxed_chg h.box_x hc h2, h.box_f.set _, own_chg h.row hc (fun k hk e => h.box_f.not_row (by decide) h.row (by rw [hk, e])), own_chg h.nums hc (fun k hk e => h.box_f.not_row (by decide) h.nums (by rw [hk, e]))⟩
theorem LaySt.more {base bx hr hx hf : Nat} {v v' : Value} {L L' : List (Int × Int)} {fr : Nat} {Ax : Option Addr} {n cx : Nat} {xs : List Int} {W W' : World} (h : LaySt base bx hr hx hf v L fr Ax n cx xs W) (h1 : hr ≠ hx) (h2 : hr ≠ hf)
 (hg : W.grownBy W' v.ownBlock) (hrow : W'.ownsRow base 149 2 v' L'.length (marksC L')) : LaySt base bx hr hx hf v' L' fr Ax n cx xs (W'.setCell ⟨hr, 0, none⟩ v') := by
 have hc : Chg (fun k => v.ownBlock = some k) W W' := Chg.of_grown hg (fun k e => e)
 have b1 := boxed_chg h.box_r hc (fun e => h.box_r.not_row (by decide) h.row e.symm)
 have b2 := boxed_chg h.box_x hc (fun e => h.box_x.not_row (by decide) h.row e.symm)
 have b3 := boxed_chg h.box_f hc (fun e => h.box_f.not_row (by decide) h.row e.symm)
 have b4 := own_chg h.nums hc (fun k hk => own_kinds h.nums h.row (by decide) k hk)
 have hs : Chg (fun k => k = hr) W' (W'.setCell ⟨hr, 0, none⟩ v') := Chg.of_set (M := fun k => k = hr) W' ⟨hr, 0, none⟩ _ rfl
 exact ⟨b1.set _, boxed_chg b2 hs (fun e => h1 e.symm), boxed_chg b3 hs (fun e => h2 e.symm), own_chg hrow hs (fun k hk e => b1.not_row (by decide) hrow (by rw [hk, e])), own_chg b4 hs (fun k hk e => b1.not_row (by decide) b4 (by rw [hk, e]))⟩
structure SortI (w : World) (bx : Nat) (Ax : Option Addr) (n cx : Nat) (cl : Int → Int) (xs done : List Int) (row : List (Int × Int)) (v : Value) (i : Nat) (W : World) : Prop where
 lay : LaySt w.heap.size bx (w.heap.size + 1) w.heap.size (w.heap.size + 1 + 1) v row done.length Ax n cx (done ++ row.map (·.1) ++ xs.drop i) W
 len : done.length + row.length = i
 val : done ++ runF cl (xs.drop i) row = runF cl xs []
 cls : ∀ m ∈ row, 0 ≤ m.2 ∧ m.2 ≤ 255
 chg : Chg (fun k => (Value.slice Ax n cx).ownBlock = some k) w W
theorem sort_calls {H : Nat} {w : World} {bd : Nat} {D : DataV} {T : List Rec} (hG : Good T) (bx : Nat) (Ax : Option Addr) (n cx : Nat) (xs : List Int) (hD : ∀ W, Chg (fun k => (Value.slice Ax n cx).ownBlock = some k) w W → DataAt H W bd D T)
 (hN : w.ownsRow bx 21 1 (.slice Ax n cx) n (xs.map (Value.int .i32))) (hr : ∀ z ∈ xs, -2147483648 ≤ z ∧ z ≤ 2147483647) (hn : n ≤ 1073741824) (ys : List Int) (hys : sortF T xs = ys) :
 Calls Tryz.prog 78 #[.pointer (some ⟨bd, 0, none⟩), .slice Ax n cx] w fun e w' => e = .returned (.tuple #[]) ∧ w'.ownsRow bx 21 1 (.slice Ax n cx) n (ys.map (Value.int .i32)) ∧ Chg (fun k => (Value.slice Ax n cx).ownBlock = some k) w w' := by
 obtain ⟨me, mz, hme, hmz, hms, hmb, hmc⟩ := mark_info
 obtain ⟨cl, hcl⟩ : ∃ cl, numF T 2 (·.n) = cl := ⟨_, rfl⟩
 have hXl : xs.length = n := by
  have := hN.1
  simpa using this
 have hys' : runF cl xs [] = ys := by rw [← hcl]; exact hys
 have HYS := Az.mk hys'
 have HCL := Az.mk hcl
 have HG := Az.mk hG
 have HD := Az.mk hD
 have HN := Az.mk hN
 have HRR := Az.mk hr
 have HXL := Az.mk hXl
 clear hys hys' hcl hG hD hN hr hXl
 go_enter Tryz.func78, Tryz.ntmps78
 go_wp2
 obtain ⟨W0, hW0⟩ : ∃ W0, ((w.alloc (.cells #[.slice Ax n cx] 23)).alloc (.cells #[.slice none 0 0] 146)).alloc (.cells #[.int .i64 0] 3) = W0 := ⟨_, rfl⟩
 have HS0 : Az (SortI w bx Ax n cx cl xs [] [] (.slice none 0 0) 0 W0) := ⟨by
  have u1 : Up w (w.alloc (.cells #[.slice Ax n cx] 23)) := up_alloc (up_refl _) _
  have u2 : Up w ((w.alloc (.cells #[.slice Ax n cx] 23)).alloc (.cells #[.slice none 0 0] 146)) := up_alloc u1 _
  have u3 : Up w W0 := by rw [← hW0]; exact up_alloc u2 _
  have b1 := Boxed.new w 23 (.slice Ax n cx)
  have b2 := Boxed.new (w.alloc (.cells #[.slice Ax n cx] 23)) 146 (.slice none 0 0)
  have b3 := Boxed.new ((w.alloc (.cells #[.slice Ax n cx] 23)).alloc (.cells #[.slice none 0 0] 146)) 3 (.int .i64 0)
  rw [show (w.alloc (.cells #[.slice Ax n cx] 23)).heap.size = w.heap.size + 1 by simp] at b2
  rw [show ((w.alloc (.cells #[.slice Ax n cx] 23)).alloc (.cells #[.slice none 0 0] 146)).heap.size = w.heap.size + 1 + 1 by simp] at b3
  exact ⟨⟨by rw [← hW0]; exact b2.alloc _, by rw [← hW0]; exact (b1.alloc _).alloc _, by rw [← hW0]; exact b3, World.ownsRow_nil _ _ _ _, own_up HN.out u3⟩, rfl, rfl, (fun m hm => by cases hm), Chg.of_up u3⟩⟩
 change Code.wp _ _ _ _ (((w.alloc (.cells #[.slice Ax n cx] 23)).alloc (.cells #[.slice none 0 0] 146)).alloc (.cells #[.int .i64 0] 3))
 rw [hW0]
 clear hW0
 go_loopg [13] n (fun j v13 wr => ∃ (i : Nat) (done : List Int) (row : List (Int × Int)) (v : Value), v13 = .int .i64 i ∧ Az (i + j = n) ∧ Az (SortI w bx Ax n cx cl xs done row v i wr))
 case atStart => exact ⟨0, [], [], _, rfl, ⟨Nat.zero_add _⟩, HS0⟩
 case round =>
  obtain ⟨i, done, row, v, rfl, HI, HS⟩ := hrel
  clear HS0
  have b1 := HS.out.lay.box_r.cell
  have b2 := HS.out.lay.box_r.frozen
  have b3 := HS.out.lay.box_f.cell
  have b4 := HS.out.lay.box_f.frozen
  cases gk with
  | zero =>
    have hi : i = n := by have := HI.out; omega
    have hlt : decide ((i : Int) < (n : Int)) = false := dFz (by omega)
    have hlt1 : ¬ (i < n) := by omega
    have hrl : row.length ≤ 1073741824 := by have := HS.out.len; omega
    have hfr : done.length + row.length ≤ n := by have := HS.out.len; omega
    have HC := Az.mk (lay_calls _ _ _ _ _ _ _ _ _ _ _ _ _ HS.out.lay (by omega) (by omega) HS.out.cls hrl hfr hn)
    go_wp2_with (go_at_call 128; refine HC.out.mono ?_; rintro e w1 ⟨rfl, v1, hlay1, hchg1⟩; have HL1 := Az.mk hlay1; have HC1 := Az.mk hchg1; clear hlay1 hchg1)
    go_end0
    refine ⟨rfl, ?_, ?_⟩
    ·have h := HL1.out.nums
     have hd : xs.drop i = [] := List.drop_eq_nil_of_le (by have := HXL.out; omega)
     rw [putL_mid _ _ _ _ (by simp [ordM_length]), hd] at h
     have hv := HS.out.val
     rw [hd, HYS.out] at hv
     rw [← hv]
     simpa [runF] using h
    ·exact HS.out.chg.trans HC1.out (fun k hk => by
      rcases hk with rfl | hk | hk
      ·exact .inr (by omega)
      ·exact .inr (HS.out.lay.row.lt k hk).1
      ·exact .inl hk)
  | succ k2 =>
    have hi : i < n := by have := HI.out; omega
    have hix : i < xs.length := by rw [HXL.out]; exact hi
    have hlt : decide ((i : Int) < (n : Int)) = true := dTz (by omega)
    have z1 : (i : Int) < (n : Int) := by omega
    obtain ⟨gx, hgx⟩ := own_some2 HS.out.lay.nums (by omega)
    subst hgx
    have y1 := (own_at HS.out.lay.nums hi).1
    obtain ⟨c, hc⟩ : ∃ c, xs[i] = c := ⟨_, rfl⟩
    have hdr : xs.drop i = c :: xs.drop (i + 1) := by rw [List.drop_eq_getElem_cons hix, hc]
    have hrd : rd (done ++ row.map (·.1) ++ xs.drop i) i = c := by
     have hl := HS.out.len
     rw [rd_elem _ _ (by simp [List.length_append]; omega), List.getElem_append_right (by simp [List.length_append]; omega)]
     simp only [hdr]
     simp [List.length_append, hl]
    rw [hrd] at y1
    have hcr := HRR.out c (by rw [← hc]; exact List.getElem_mem _)
    obtain ⟨hc1, hc2⟩ := hcr
    have HC1 := Az.mk hc1
    have HC2 := Az.mk hc2
    have HDR := Az.mk hdr
    clear hc1 hc2 hdr hrd hc hix
    have HDW := Az.mk (HD.out _ HS.out.chg)
    obtain ⟨⟨a0, a1, a2, a3, a4, a5, a6⟩, _, _, _, _, _, _⟩ := HDW.out.all
    clear a0 a1 a2 a4 a5 a6
    obtain ⟨kk, hk⟩ : ∃ kk, cl c = kk := ⟨_, rfl⟩
    have HK := Az.mk hk
    clear hk
    have HCK : Az (0 ≤ kk ∧ kk ≤ 255) := ⟨by rw [← HK.out, ← HCL.out]; exact class_le HG.out c⟩
    have HCC := Az.mk (HDW.out.Class HG.out c kk (by rw [HCL.out]; exact HK.out) HC1.out HC2.out)
    have hsz : (w.heap.size + 1 ≠ w.heap.size ∧ w.heap.size + 1 ≠ w.heap.size + 1 + 1) ∧ w.heap.size ≠ w.heap.size + 1 + 1 := by omega
    have HSZ := Az.mk hsz
    clear hsz
    by_cases hz : kk = 0
    ·have hz1 : (kk == 0) = true := by rw [hz]; rfl
     have HZ := Az.mk hz
     have hrl : row.length ≤ 1073741824 := by have := HS.out.len; omega
     have hfr : done.length + row.length ≤ n := by have := HS.out.len; omega
     have hni : ((i + 1 : Nat) : Int) = (i : Int) + 1 := by omega
     have HNI := Az.mk hni
     clear hz b1 b2 b3 b4 hni
     go_wp2_with (first | (go_at_call 27; (with_reducible refine HCC.out.mono ?_); rintro e w1 ⟨rfl, hup1⟩; have HU1 := Az.mk hup1; clear hup1) | (go_at_call 128; refine (lay_calls _ _ _ _ _ _ _ _ _ _ _ _ _ (HS.out.lay.up HU1.out) HSZ.out.1.1 HSZ.out.1.2 HS.out.cls hrl hfr hn).mono ?_; rintro e w2 ⟨rfl, v2, hlay2, hchg2⟩; have HL2 := Az.mk hlay2; have HC2 := Az.mk hchg2; have d3 := HL2.out.box_f.cell; have d4 := HL2.out.box_f.frozen; clear hlay2 hchg2))
     go_roundg k2
     case measure => omega
     case rel =>
      have hlen : (done ++ (ordM row).map (·.1) ++ [c]).length = i + 1 := by
       have := HS.out.len
       simp [ordM_length]
       omega
      have hl := HL2.out.set_f HSZ.out.1.2 HSZ.out.2 (i + 1)
      rw [putL_mid _ _ _ _ (by simp [ordM_length]), HDR.out] at hl
      have hch : Chg (fun k => (Value.slice (some ⟨gx, 0, none⟩) n cx).ownBlock = some k) w (w2.setCell ⟨w.heap.size + 1 + 1, 0, none⟩ (.int .i64 ((i + 1 : Nat) : Int))) := by
       refine ((HS.out.chg.trans (M' := fun _ => False) (Chg.of_up HU1.out) (fun k e => e.elim)).trans HC2.out (fun k hk => ?_)).trans (M' := fun k => k = w.heap.size + 1 + 1) (Chg.of_set w2 ⟨w.heap.size + 1 + 1, 0, none⟩ _ rfl) (fun k hk => .inr (by omega))
       rcases hk with rfl | hk | hk
       ·exact .inr (by omega)
       ·exact .inr (HS.out.lay.row.lt k hk).1
       ·exact .inl hk
      refine ⟨i + 1, done ++ (ordM row).map (·.1) ++ [c], [], v2, rfl, ⟨by have := HI.out; omega⟩, ⟨⟨?_, ?_, ?_, (fun m hm => by cases hm), hch⟩⟩⟩
      ·rw [hlen]
       simpa using hl
      ·simpa using hlen
      ·have hv := HS.out.val
       rw [HDR.out, runF, if_pos (HK.out.trans HZ.out)] at hv
       rw [← hv]
       simp
    ·have hz1 : (kk == 0) = false := bqf hz
     have HZ := Az.mk hz
     clear b3 b4
     have hup : ∀ w1, Up wr w1 → w1.cell? ⟨w.heap.size + 1, 0, none⟩ = some v := fun w1 h => up_cell h b1
     have HB1 := Az.mk hup
     clear hup b1 b2
     obtain ⟨Ar, cr, hv⟩ := own_any HS.out.lay.row
     subst hv
     have HNN : Az (n ≤ 1073741824) := ⟨hn⟩
     go_wp2_with (first | (go_at_call 27; (with_reducible refine HCC.out.mono ?_); rintro e w1 ⟨rfl, hup1⟩; have HU1 := Az.mk hup1; have b1 := HB1.out _ hup1; clear hup1) |
      (at_builtin; refine (wpList_append_own_at _ rfl _ _ 146 rfl w.heap.size 149 me mz 2 16 Tryz.underlying146 hme hmz hms hmb hmc (by decide) _ row.length (marksC row) rfl (own_up HS.out.lay.row (up_alloc HU1.out _)) _ 1 1 [.int .i32 c, .int .i64 kk] rfl rfl (World.news_of_block (cs := #[.int .i32 c, .int .i64 kk]) (t := 149) (fr := (0, 0)) (heap_alloc_new w1 _)) (by simp [Value.oneCell']) ?ha ?hb ?hc ?_)))
     case ha =>
      have := HS.out.len
      show row.length + 1 ≤ 9223372036854775807
      omega
     case hb =>
      have := HS.out.len
      omega
     case hc =>
      have := HU1.out.size
      have := HS.out.chg.size
      rw [World.size_alloc]
      omega
     intro v' w4 hown4 hgrow4 _ hat4
     obtain ⟨A4, c4, hv4⟩ := own_any hown4
     subst hv4
     have hl := ((HS.out.lay.up HU1.out).up (up_alloc (up_refl _) (.cells #[.int .i32 c, .int .i64 kk] 149))).more (L' := row ++ [(c, kk)]) HSZ.out.1.1 HSZ.out.1.2 hgrow4 (by
      rw [List.length_append, show marksC (row ++ [(c, kk)]) = marksC row ++ [Value.int .i32 c, Value.int .i64 kk] by simp [marksC]]
      exact hown4)
     have HL4 := Az.mk hl
     have hb4 := boxed_chg ((HS.out.lay.up HU1.out).up (up_alloc (up_refl _) (.cells #[.int .i32 c, .int .i64 kk] 149))).box_r (Chg.of_grown (M := fun k => (Value.slice Ar row.length cr).ownBlock = some k) hgrow4 (fun k e => e)) (fun e => HS.out.lay.box_r.not_row (by decide) HS.out.lay.row e.symm)
     have d1 := hb4.cell
     have d2 := hb4.frozen
     have HG4 := Az.mk hgrow4
     clear hown4 hgrow4 hat4 hl hb4
     go_wp2
     go_roundg k2
     case measure => omega
     case rel =>
      refine ⟨i + 1, done, row ++ [(c, kk)], .slice A4 (row.length + 1) c4, rfl, ⟨by have := HI.out; omega⟩, ⟨⟨?_, ?_, ?_, ?_, ?_⟩⟩⟩
      ·have h := HL4.out
       rw [HDR.out] at h
       simpa using h
      ·have := HS.out.len
       simp
       omega
      ·have hv := HS.out.val
       rw [HDR.out, runF, if_neg (fun e => HZ.out (HK.out.symm.trans e)), HK.out] at hv
       exact hv
      ·intro m hm
       rcases List.mem_append.1 hm with hm | hm
       ·exact HS.out.cls m hm
       ·rw [List.mem_singleton] at hm
        subst hm
        exact HCK.out
      ·refine ((HS.out.chg.trans (M' := fun _ => False) (Chg.of_up (up_alloc HU1.out _)) (fun k e => e.elim)).trans (M' := fun k => (Value.slice Ar row.length cr).ownBlock = some k) (Chg.of_grown HG4.out (fun k e => e)) (fun k hk => .inr (HS.out.lay.row.lt k hk).1)).trans (M' := fun k => k = w.heap.size + 1) (Chg.of_set w4 ⟨w.heap.size + 1, 0, none⟩ _ rfl) (fun k hk => .inr (by omega))
end Go.Proofs.YtnohcnneflogjaaGreat.M.St
