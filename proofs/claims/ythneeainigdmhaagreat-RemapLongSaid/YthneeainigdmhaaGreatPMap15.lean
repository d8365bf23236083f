/- remap.Map: a range over the iterator of Parts, walked. -/
import Derived.Test.YthneeainigdmhaaGreatPPartsIt
import Derived.Test.YthneeainigdmhaaGreatPLen24
set_option linter.unusedVariables false
set_option linter.unusedSimpArgs false
namespace Go.Proofs.YthneeainigdmhaaGreat.M
open Go.RowKit
attribute [local go_sem] Oper.semAt_some
set_option maxHeartbeats 8000000
set_option maxRecDepth 100000

theorem room_no {q p : Nat} (h : ¬ 65536 < q + p) : ¬ ((65536 : Int) < (q : Int) + (p : Int)) := by omega
theorem room_yes {q p : Nat} (h : 65536 < q + p) : (65536 : Int) < (q : Int) + (p : Int) := by omega
theorem room_wrap {q p : Nat} (hq : q ≤ 65536) (hp : p ≤ 24) : wrap64 ((q : Int) + (p : Int)) = (q : Int) + (p : Int) := by unfold wrap64; omega
theorem room_len {q p : Nat} (h : ¬ 65536 < q + p) : q + p ≤ maxLen ∧ (q + p) * 4 ≤ 140737488355328 := by unfold maxLen; omega
/-- What Map hands back: the numbers, where there is room; else ErrLong. -/
def RetMap (r : List Int) (w : World) (e : Ending) (w' : World) : Prop :=
  Up w w' ∧ ((r.length ≤ 65536 ∧ ∃ v, e = .returned (.tuple #[v, .int .i64 0]) ∧ w'.ownsRow w.heap.size 21 1 v r.length (r.map (Value.int .i32))) ∨
    (65536 < r.length ∧ e = .returned (.tuple #[.slice none 0 0, .int .i64 2])))
/-- The boxes of Map. -/
def MapM (h B : Nat) (k : Nat) : Prop := k = h ∨ k = h + 1 ∨ k = h + 1 + 1 ∨ B ≤ k
/-- Between two rounds. -/
def MapI (w w1 : World) (T : List Rec) (fl : Int) (x : List Int) (k : Nat) (W : World) : Prop :=
  Chg (MapM w.heap.size w1.heap.size) w1 W ∧ ∃ (q : List Int) (Aq : Option Addr) (cq : Nat), mapsF T fl (x.take k) = q ∧ q.length ≤ 65536 ∧ Boxed W (w.heap.size + 1 + 1) 23 (.slice Aq q.length cq) ∧
    W.ownsRow w1.heap.size 21 1 (.slice Aq q.length cq) q.length (q.map (Value.int .i32)) ∧ Boxed W w.heap.size 23 (.slice none 0 0) ∧ Boxed W (w.heap.size + 1) 76 (.int .i64 0)
/-- A round has left. -/
def MapX (w w1 : World) (r : List Int) (c : Code) (W : World) : Prop :=
  c = .ret ∧ 65536 < r.length ∧ Chg (MapM w.heap.size w1.heap.size) w1 W ∧ Boxed W w.heap.size 23 (.slice none 0 0) ∧ Boxed W (w.heap.size + 1) 76 (.int .i64 2)
theorem chgput {M : Nat → Prop} {w1 W : World} (h : Chg M w1 W) (l : Nat) (o : Obj) (hl : w1.heap.size ≤ l) : Chg M w1 (W.putObj l o) :=
  h.trans (M' := fun k => k = l) (Chg.of_grown (grownBy_putObj' W l o) (fun k e => by cases e; rfl)) (fun k e => .inr (by omega))
theorem chg_up {M : Nat → Prop} {w1 W W' : World} (h : Chg M w1 W) (hu : Up W W') : Chg M w1 W' := h.trans (M' := fun _ => False) (Chg.of_up hu) (fun k e => e.elim)
theorem boxed_put {W : World} {b : Nat} {t : TypeId} {v : Value} (h : Boxed W b t v) (l : Nat) (o : Obj) (hl : b ≠ l) : Boxed (W.putObj l o) b t v := (World.putObj_heap_other hl).trans h
theorem boxed_up {W W' : World} {b : Nat} {t : TypeId} {v : Value} (h : Boxed W b t v) (hu : Up W W') : Boxed W' b t v := up_same hu h
theorem boxed_set {W : World} {b : Nat} {t : TypeId} {v : Value} (h : Boxed W b t v) (c : Nat) (u : Value) (hl : b ≠ c) : Boxed (W.setCell ⟨c, 0, none⟩ u) b t v := (Below.heap_setCell W ⟨c, 0, none⟩ u b hl).trans h
theorem map_up {w w1 W : World} (hup : Up w w1) (hc : Chg (MapM w.heap.size w1.heap.size) w1 W) : Up w W :=
  Below.trans hup (hc.below hup.size (fun k h => by
    have := hup.size
    rcases h with h | h | h | h <;> omega))
theorem own_isCells {W : World} {base : Nat} {e : TypeId} {size : Nat} {v : Value} {n : Nat} {xs : List Value} (h : W.ownsRow base e size v n xs) (j : Nat) (o : Obj) (hj : v.ownBlock = some j) (ho : W.heap[j]? = some o) : o.isCells = true := by
  rcases h.2 with ⟨rfl, _⟩ | ⟨g, cap, cur, rfl, _, hgb, _⟩
  · simp [Value.ownBlock] at hj
  · obtain rfl : g = j := by simpa [Value.ownBlock] using hj
    rw [hgb] at ho; cases ho; rfl
theorem chg_set {M : Nat → Prop} {w1 W : World} (h : Chg M w1 W) (b : Nat) (v : Value) (hb : M b) : Chg M w1 (W.setCell ⟨b, 0, none⟩ v) :=
  h.trans (M' := M) (Chg.of_set W ⟨b, 0, none⟩ v hb) (fun k e => .inl e)
theorem own_set_other {W : World} {base : Nat} {e : TypeId} {size : Nat} {v : Value} {n : Nat} {xs : List Value} (h : W.ownsRow base e size v n xs) (b : Nat) (u : Value) (hb : b < base) : (W.setCell ⟨b, 0, none⟩ u).ownsRow base e size v n xs :=
  own_chg (M := fun k => k = b) h (Chg.of_set W ⟨b, 0, none⟩ u rfl) (fun k e hk => by have := (h.lt k e).1; omega)
theorem MapI.grows (w w1 : World) (T : List Rec) (fl : Int) (x : List Int) (k : Nat) : Grows (MapI w w1 T fl x k) := by
  rintro W W' ⟨hc, q, Aq, cq, h1, h2, h3, h4, h5, h6⟩ hu
  exact ⟨chg_up hc hu, q, Aq, cq, h1, h2, boxed_up h3 hu, own_up h4 hu, boxed_up h5 hu, boxed_up h6 hu⟩
theorem MapI.turns (w w1 : World) (T : List Rec) (fl : Int) (x : List Int) (hw : w.heap.size + 3 ≤ w1.heap.size) (k : Nat) : Turns w1.heap.size (MapI w w1 T fl x k) := by
  rintro W l o o' ⟨hc, q, Aq, cq, h1, h2, h3, h4, h5, h6⟩ hl hh ho
  exact ⟨chgput hc l o' hl, q, Aq, cq, h1, h2, boxed_put h3 l o' (by omega), ownsRow_putObj h4 o' hh ho, boxed_put h5 l o' (by omega), boxed_put h6 l o' (by omega)⟩
theorem MapX.turns (w w1 : World) (r : List Int) (hw : w.heap.size + 3 ≤ w1.heap.size) (c : Code) : Turns w1.heap.size (MapX w w1 r c) := by
  rintro W l o o' ⟨e, hr, hc, h5, h6⟩ hl hh ho
  exact ⟨e, hr, chgput hc l o' hl, boxed_put h5 l o' (by omega), boxed_put h6 l o' (by omega)⟩
theorem results_cells2 {fn : Func} {p q : Tmp} {t1 t2 : TypeId} (h : fn.results = #[.cell p t1, .cell q t2]) (tmps : Array Value) (P : Program) (w : World) :
    (results fn tmps).run P w = ((asAddr (tmps.getD p undef)).run P w).andThen fun a w₁ => ((loadVar t1 a).run P w₁).andThen fun v w₂ => ((asAddr (tmps.getD q undef)).run P w₂).andThen fun a' w₃ => ((loadVar t2 a').run P w₃).andThen fun v' w₄ => .ok (.tuple #[v, v']) w₄ := by
  simp only [results, h]
  simp [Sem.run_bind, Result.andThen]
theorem Map_nil (A : Option Addr) (n c : Nat) (fl : Int) (w : World) : Calls Tryz.prog 63 #[.pointer none, .slice A n c, .int .i64 fl] w fun e w' => e = .returned (.tuple #[.slice none 0 0, .int .i64 1]) ∧ Up w w' := by
  go_enter Tryz.func63, Tryz.ntmps63
  go_wp2
  refine bodyPost_ret (v := .tuple #[.slice none 0 0, .int .i64 1]) ?_ rfl ⟨rfl, ?_⟩
  · simp [results, Tryz.f63, go_sem]
  · exact up_alloc (up_alloc (up_refl w) _) _
theorem Map_calls {H : Nat} {w : World} {bd : Nat} {D : DataV} {T : List Rec} (hD : DataAt H w bd D T) (hG : Good T) (A : Option Addr) (c : Nat) (x : List Int) (fl : Int) (hI : Ints .i32 w A x) (hx : x.length ≤ 100000) (hwf : ∀ z ∈ x, (Lit.int .i32 z).wf = true) (r : List Int) (hr : mapsF T fl x = r) :
    Calls Tryz.prog 63 #[.pointer (some ⟨bd, 0, none⟩), .slice A x.length c, .int .i64 fl] w (RetMap r w) := by
  refine (callsIn_wide (n := 9)).1 ?_
  refine callsIn_of_wp_marks Tryz.func63 rfl trivial ?_ rfl
  simp only [Tryz.ntmps63, List.size_toArray, List.length_cons, List.length_nil, Nat.reduceAdd, Nat.reduceSub, Array.replicate_succ, Array.replicate_zero, List.push_toArray, List.append_toArray, List.nil_append, List.cons_append]
  have HD := Aside0.mk hD
  have HG := Aside0.mk hG
  have HI := Aside0.mk hI
  have HX := Aside0.mk hx
  have HWF := Aside0.mk hwf
  have HR := Aside0.mk hr
  obtain ⟨ie, ze, hie, hze, hsi, hby, hzc⟩ := i32_info
  clear hD hG hI hx hwf hr
  have HU0 : Aside0 (∀ a b d : Obj, Up w (((w.alloc a).alloc b).alloc d)) := ⟨fun a b d => up_alloc (up_alloc (up_alloc (up_refl w) a) b) d⟩
  gi_wp2_with (refine ⟨trivial, ?_⟩; gi_at_call 69; refine (callsIn_wide.2 (Parts_calls bd A c x fl _ (HI.out.up (HU0.out _ _ _)) HX.out)).mono ?_; rintro e w1 ⟨b7, b3, b5, Ay, cy, rfl, hb7, hb3, hb5, hAy, hc7, hiy, hc3, hc5, hup1⟩)
  have bR : Boxed w1 w.heap.size 23 (.slice none 0 0) := boxed_up ((Boxed.new w 23 (.slice none 0 0)).alloc _ |>.alloc _) hup1
  have bE : Boxed w1 (w.heap.size + 1) 76 (.int .i64 0) := by
    have := Boxed.new (w.alloc (.cells #[.slice none 0 0] 23)) 76 (.int .i64 0)
    rw [World.size_alloc] at this
    exact boxed_up (this.alloc _) hup1
  have bY : Boxed w1 (w.heap.size + 1 + 1) 23 (.slice none 0 0) := by
    have := Boxed.new ((w.alloc (.cells #[.slice none 0 0] 23)).alloc (.cells #[.int .i64 0] 76)) 23 (.slice none 0 0)
    rw [World.size_alloc, World.size_alloc] at this
    exact boxed_up this hup1
  simp only [World.size_alloc] at hb7 hb3 hb5 hAy
  have hup := up_trans (HU0.out _ _ _) hup1
  have hsz : w.heap.size + 3 ≤ w1.heap.size := by have := hup1.size; simp only [World.size_alloc] at this; omega
  have l7 := cell_lt hc7
  have l3 := cell_lt hc3
  have l5 := cell_lt hc5
  have HAT : Aside0 (∀ k W, MapI w w1 T fl x k W → PartsAt H bd b7 b3 b5 D T fl Ay cy x W) := ⟨by
    rintro k W ⟨hc, _⟩
    have hM : ∀ b, w.heap.size + 1 + 1 + 1 ≤ b → b < w1.heap.size → ¬ MapM w.heap.size w1.heap.size b := fun b h1 h2 h => by
      rcases h with h | h | h | h <;> omega
    refine ⟨(World.cell?_of_block (hc.block _ l7 (hM _ hb7 l7))).trans hc7, ?_, (World.cell?_of_block (hc.block _ l3 (hM _ hb3 l3))).trans hc3, (World.cell?_of_block (hc.block _ l5 (hM _ hb5 l5))).trans hc5, HD.out.up (map_up hup hc)⟩
    · intro i u hu
      obtain ⟨ad, he, hcc⟩ := hiy i u hu
      have h1 := cell_lt hcc
      have h2 := hAy _ he
      rw [add_block] at h1
      exact ⟨ad, he, (World.cell?_of_block (hc.block _ (by rw [add_block]; exact h1) (by rw [add_block]; exact hM _ h2 h1))).trans hcc⟩⟩
  have HSZ := Aside0.mk hsz
  have HUP := Aside0.mk hup
  have BR := Aside0.mk bR
  have BE := Aside0.mk bE
  have BY := Aside0.mk bY
  clear hsz hup bR bE bY hb7 hb3 hb5 hAy l7 l3 l5 hc7 hc3 hc5 hiy hup1
  refine wpIn_rangeN (gf := 108) (lb := #[.pointer (some ⟨b7, 0, none⟩), .pointer (some ⟨b3, 0, none⟩), .pointer (some ⟨b5, 0, none⟩)]) rfl (enters_of Tryz.func108 (by kernel_rfl) rfl)
    (Parts1_iter 8 (by decide) H bd b7 b3 b5 D T fl Ay cy x HG.out HWF.out HX.out) (fun _ _ => rfl)
    (MapI w w1 T fl x) (MapX w w1 r) HAT.out (MapI.grows w w1 T fl x) (MapI.turns w w1 T fl x HSZ.out) (MapX.turns w w1 r HSZ.out)
    ⟨Chg.refl _ _, [], none, 0, rfl, by decide, BY.out, World.ownsRow_nil _ _ _ _, BR.out, BE.out⟩ ?a1 ?assign ?body ?done ?stop
  case a1 => exact fun k v => { tmps := #[.pointer (some ⟨bd, 0, none⟩), .slice A x.length c, .int .i64 fl, undef, undef, undef, .pointer (some ⟨w.heap.size, 0, none⟩), .pointer (some ⟨w.heap.size + 1, 0, none⟩), .pointer (some ⟨w.heap.size + 1 + 1, 0, none⟩), undef, v, .pointer (some ⟨bd, 0, none⟩), .bool false, .pointer (some ⟨bd, 0, none⟩), .slice A x.length c, .int .i64 fl, .func (.func 108) #[] #[.pointer (some ⟨b7, 0, none⟩), .pointer (some ⟨b3, 0, none⟩), .pointer (some ⟨b5, 0, none⟩)], .int .i32 (rd x k), v, undef, undef, undef, undef, undef, undef, undef, undef, undef, undef], defers := [] }
  case assign =>
    intro l k v W K hK
    gi_wp2
    exact hK
  case body =>
    rintro l k v W0 W hk ⟨hc0, q, Aq, cq, hq, hql, hbY0, hrow0, hbR0, hbE0⟩ hu hgv
    have hgv : Given (oneF T fl (rd x k)) v W0.heap.size W := hgv
    have hb1 : w1.heap.size ≤ W.heap.size := Nat.le_trans hc0.size hu.size
    have HC := Aside0.mk (chg_up hc0 hu)
    have HY := Aside0.mk (boxed_up hbY0 hu)
    have HRW := Aside0.mk (own_up hrow0 hu)
    have HBR := Aside0.mk (boxed_up hbR0 hu)
    have HBE := Aside0.mk (boxed_up hbE0 hu)
    have HSP : Aside0 (mapsF T fl (x.take (k + 1)) = q ++ oneF T fl (rd x k)) := ⟨by rw [maps_step _ _ _ _ hk, hq]⟩
    have HLE : Aside0 ((q ++ oneF T fl (rd x k)).length ≤ r.length) := ⟨by rw [← HSP.out, ← HR.out]; exact maps_take_le _ _ _ _⟩
    have hpl := oneF_len24 HG.out fl (rd x k)
    obtain ⟨p, hp⟩ : ∃ p, oneF T fl (rd x k) = p := ⟨_, rfl⟩
    rw [hp] at hgv HSP HLE hpl
    have hw64 : wrap64 ((q.length : Int) + (p.length : Int)) = (q.length : Int) + (p.length : Int) := room_wrap hql hpl
    obtain ⟨Av, cv, hv, hiv, _⟩ := own_ints hgv
    subst hv
    have HIV := Aside0.mk hiv
    have HMQ := Aside0.mk hql
    have HK := Aside0.mk hk
    have HB1 := Aside0.mk hb1
    clear hgv hp hiv hc0 hbY0 hrow0 hbR0 hbE0 hu hq hql hk hb1
    have y1 := HY.out.cell
    have y2 := HY.out.frozen
    have r1 := HBR.out.cell
    have r2 := HBR.out.frozen
    have e1 := HBE.out.cell
    have e2 := HBE.out.frozen
    have n1 : ¬ (w.heap.size + 1 = w.heap.size) := Nat.succ_ne_self _
    by_cases hgt : 65536 < q.length + p.length
    · have hgt2 : (65536 : Int) < (q.length : Int) + (p.length : Int) := room_yes hgt
      gi_wp2
      have hn : w.heap.size + 1 ≠ w.heap.size := Nat.succ_ne_self _
      exact ⟨(KeepsOthers.setCell _ _ _).trans (KeepsOthers.setCell _ _ _), rfl, by have := HLE.out; rw [List.length_append] at this; omega, chg_set (chg_set HC.out _ _ (.inl rfl)) _ _ (.inr (.inl rfl)),
        boxed_set (HBR.out.set _) _ _ hn.symm, (boxed_set HBE.out _ _ hn).set _⟩
    · have hgt2 : ¬ ((65536 : Int) < (q.length : Int) + (p.length : Int)) := room_no hgt
      have HLEN : Aside0 (q.length + p.length ≤ maxLen ∧ (q.length + p.length) * 4 ≤ 140737488355328) := ⟨room_len hgt⟩
      gi_wp2_with (gi_at_builtin; refine (wpListIn_append_row _ rfl _ _ 23 rfl w1.heap.size 21 ie ze 1 4 Tryz.underlying23 hie hze hsi hby hzc (by decide) (.slice Aq q.length cq) q.length (q.map (Value.int .i32)) rfl HRW.out Av p.length cv (p.map (Value.int .i32)) rfl (by simp) HIV.out (ints_one .i32 p) ?ha6 ?hb6 ?hc6 ?_); (case ha6 => exact HLEN.out.1); (case hb6 => exact HLEN.out.2); (case hc6 => exact HB1.out); intro v6 w6 hown6 hgrow6 hat6; have HO6 : Aside0 (w6.ownsRow w1.heap.size 21 1 v6 (q ++ p).length ((q ++ p).map (Value.int .i32))) := ⟨by rw [List.length_append, List.map_append]; exact hown6⟩; obtain ⟨A6, c6, hv6⟩ := own_any HO6.out; subst hv6; have HG6 := Aside0.mk hgrow6; have HY6 : Aside0 (Boxed w6 (w.heap.size + 1 + 1) 23 (.slice Aq q.length cq)) := ⟨HY.out.kept hgrow6 (HY.out.not_row (by decide) HRW.out)⟩; have y3 := HY6.out.cell; have y4 := HY6.out.frozen; clear hown6 hgrow6 hat6 y1 y2)
      have hn : w.heap.size + 1 + 1 < w1.heap.size := by have := HSZ.out; omega
      have hb : ∀ {t : TypeId} {b : Nat} {u : Value}, Boxed W b t u → t ≠ 21 → b ≠ w.heap.size + 1 + 1 → Boxed (w6.setCell ⟨w.heap.size + 1 + 1, 0, none⟩ (.slice A6 (q.length + p.length) c6)) b t u :=
        fun h ht hne => boxed_set (h.kept HG6.out (h.not_row ht HRW.out)) _ _ hne
      refine ⟨(KeepsOthers.of_grownBy HG6.out (own_isCells HRW.out)).trans (KeepsOthers.setCell _ _ _), chg_set (HC.out.trans (M' := MapM w.heap.size w1.heap.size) (Chg.of_grown HG6.out (fun k e => .inr (.inr (.inr (HRW.out.lt k e).1)))) (fun k e => .inl e)) _ _ (.inr (.inr (.inl rfl))),
        q ++ p, A6, c6, HSP.out, by rw [List.length_append]; omega, ?_, ?_, hb HBR.out (by decide) (by omega), hb HBE.out (by decide) (by omega)⟩
      · rw [List.length_append]
        exact HY6.out.set _
      · have := own_set_other HO6.out (w.heap.size + 1 + 1) (.slice A6 (q.length + p.length) c6) hn
        rwa [List.length_append] at this ⊢
  case done =>
    rintro D W hD ⟨hc, q, Aq, cq, hq, hql, hbY, hrow, hbR, hbE⟩ hK
    have y1 := hbY.cell
    have y2 := hbY.frozen
    have r1 := hbR.cell
    have r2 := hbR.frozen
    have e1 := hbE.cell
    have e2 := hbE.frozen
    have HC := Aside0.mk hc
    have HQ : Aside0 (q = r) := ⟨by rw [← hq, List.take_length]; exact HR.out⟩
    have HQL := Aside0.mk hql
    have HRW := Aside0.mk hrow
    have HK := Aside0.mk hK
    have HBR := Aside0.mk hbR
    have HBE := Aside0.mk hbE
    have HDD := Aside0.mk hD
    clear hq hql hc hrow hK hbR hbE hbY hD
    gi_wp2
    have hn : w.heap.size + 1 ≠ w.heap.size := Nat.succ_ne_self _
    have hK1 := (KeepsOthers.setCell (W.setCell ⟨w.heap.size, 0, none⟩ (.slice Aq q.length cq)) ⟨w.heap.size + 1, 0, none⟩ (.int .i64 0)).same D _ ((KeepsOthers.setCell W ⟨w.heap.size, 0, none⟩ (.slice Aq q.length cq)).same D _ HK.out rfl) rfl
    have hs3 := HSZ.out
    have hd3 := HDD.out
    refine ⟨by simp, .inl ⟨_, _, rfl, run_takeDeferred hK1, ?_⟩⟩
    have r1 := (boxed_put (boxed_set (HBR.out.set (.slice Aq q.length cq)) (w.heap.size + 1) (.int .i64 0) hn.symm) D (.deferred none) (by omega)).cell
    have e1 := (boxed_put ((boxed_set HBE.out w.heap.size (.slice Aq q.length cq) hn).set (.int .i64 0)) D (.deferred none) (by omega)).cell
    refine ⟨.tuple #[.slice Aq q.length cq, .int .i64 0], ?_, ?_, .inl ⟨?_, _, rfl, ?_⟩⟩
    · simp [results, Tryz.f63, go_sem, r1, e1]
    · exact map_up HUP.out (chgput (chg_set (chg_set HC.out _ _ (.inl rfl)) _ _ (.inr (.inl rfl))) _ _ HDD.out)
    · rw [← HQ.out]
      exact HQL.out
    · have := ownsRow_putObj (own_set_other (own_set_other HRW.out w.heap.size (.slice Aq q.length cq) (by omega)) (w.heap.size + 1) (.int .i64 0) (by omega)) (.deferred none) hK1 rfl
      rw [← HQ.out]
      exact own_mono this HUP.out.size
  case stop =>
    rintro D c W hD ⟨rfl, hr, hc, hbR, hbE⟩ hK
    gi_wp2
    refine ⟨by simp, .inl ⟨_, _, rfl, run_takeDeferred hK, ?_⟩⟩
    have r1 := (boxed_put hbR D (.deferred none) (by have := HSZ.out; omega)).cell
    have e1 := (boxed_put hbE D (.deferred none) (by have := HSZ.out; omega)).cell
    refine ⟨.tuple #[.slice none 0 0, .int .i64 2], ?_, ?_, .inr ⟨hr, rfl⟩⟩
    · simp [results, Tryz.f63, go_sem, r1, e1]
    · exact map_up HUP.out (chgput hc _ _ hD)
end Go.Proofs.YthneeainigdmhaaGreat.M
