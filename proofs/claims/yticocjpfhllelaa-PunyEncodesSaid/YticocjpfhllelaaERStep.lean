/- The walk of the document's Step: what it comes to in plain Lean. -/
import Derived.Test.YticocjpfhllelaaXP2
import Derived.Test.YticocjpfhllelaaEPuny
import Derived.Test.YticocjpfhllelaaERow
import Derived.RegionTactic
import Derived.Outline
import Derived.IntWalk
namespace Go.Proofs.Yticocjpfhllelaa.XP
open Go.RowKit Go.Proofs.YticocjpfhllelaaW.PrintWords Go.Proofs.YticocjpfhllelaaW.PrintLast Go.Proofs.YticocjpfhllelaaW.PrintMore

theorem radapt_l0 : ∀ (k : Nat) (d q : Int), endonymref11_Adapt.l0 k d q = puny_Adapt.l0 k d q
  | 0, _, _ => rfl
  | k + 1, d, q => by
    simp only [endonymref11_Adapt.l0, puny_Adapt.l0]
    rw [radapt_l0 k]
theorem radapt_j0 : ∀ (k : Nat) (d q : Int), endonymref11_Adapt.j0 k d q = puny_Adapt.j0 k d q
  | 0, _, _ => rfl
  | k + 1, d, q => by
    simp only [endonymref11_Adapt.j0, puny_Adapt.j0]
    rw [radapt_l0 k]
/-- The document's Adapt is the program's. -/
theorem radapt_eq (k : Nat) (d p : Int) (b : Bool) : endonymref11_Adapt.f k d p b = puny_Adapt.f k d p b := by
  unfold endonymref11_Adapt.f puny_Adapt.f
  rw [radapt_j0, radapt_j0]
theorem valid3_f (c : Int) : endonymref3_Valid.f c = some (validI c) := by
  unfold endonymref3_Valid.f validI
  by_cases a1 : c ≥ 0 <;> by_cases a2 : c ≤ 55295 <;> by_cases a3 : c ≥ 57344 <;> by_cases a4 : c ≤ 1114111 <;> simp [a1, a2, a3, a4] <;> omega

def endonymref11_Step.f (l : List Int) (n i bias : Int) (first : Bool) (d : Int) : Option (List Int × Int × Int × Int × Bool × Bool) :=
  if l.length ≤ 140000 ∧ 0 ≤ n ∧ n ≤ 1114111 ∧ 0 ≤ i ∧ i ≤ 140000 ∧ 0 ≤ d ∧ d ≤ 4294967296 then
    let h : Int := l.length + 1
    let c := n + (i + d) / h
    let at_ := (i + d) % h
    if c ≤ 1114111 ∧ validI c = true then some (l.take at_.toNat ++ c :: l.drop at_.toNat, c, at_ + 1, adaptI d h first, false, true)
    else some (l, c, i, bias, first, false)
  else none

theorem blk_second (w : World) (o1 o2 : Obj) : ((w.alloc o1).alloc o2).heap[w.heap.size + 1]? = some o2 := by
  have := blk_new (w.alloc o1) o2
  simpa using this

set_option maxHeartbeats 4000000 in
set_option maxRecDepth 100000 in
theorem endonymref11_Step.calls (P0_ : Nat → Prop) (u9000_ : Value) (l0 : List Int) (a1 a2 a3 : Int) (a4 : Bool) (a5 : Int) (r1 : List Int) (r2 r3 r4 : Int) (r5 r6 : Bool) (w0 w : World) (hB : Below w0.heap.size w0 w)
    (ho0 : Kd.R (Kd.int .i32) 21 w w0.heap.size P0_ u9000_ l0) (h : endonymref11_Step.f l0 a1 a2 a3 a4 a5 = some (r1, r2, r3, r4, r5, r6)) :
    Calls Try.prog 25 #[.agg #[u9000_, .int .i64 a1, .int .i64 a2, .int .i64 a3, .bool a4], .int .i64 a5] w fun e w' => ∃ v0_ : Value, e = .returned (.tuple #[.agg #[v0_, .int .i64 r2, .int .i64 r3, .int .i64 r4, .bool r5], .bool r6]) ∧ Kd.R (Kd.int .i32) 21 w' w0.heap.size (fun k_ => (P0_ k_ ∨ w.heap.size ≤ k_)) v0_ r1 ∧ Below w0.heap.size w0 w' ∧ Kept w w' (fun k_ => P0_ k_) := by
  have HR := Aside0.mk ho0
  have HB := Aside0.mk hB
  clear ho0 hB
  obtain ⟨A0, c0, e0⟩ := Kd.R_slice HR.out
  subst e0
  have hu45 := Try.underlying45
  obtain ⟨⟨hl, hn0, hn1, hi0, hi1, hd0, hd1⟩, h⟩ : (l0.length ≤ 140000 ∧ 0 ≤ a1 ∧ a1 ≤ 1114111 ∧ 0 ≤ a2 ∧ a2 ≤ 140000 ∧ 0 ≤ a5 ∧ a5 ≤ 4294967296) ∧ _ := by
    unfold endonymref11_Step.f at h
    split at h
    · rename_i c; exact ⟨c, h⟩
    · exact absurd h (by simp)
  simp only at h
  have hq0 : 0 ≤ (a2 + a5) / ((l0.length : Int) + 1) := Int.ediv_nonneg (by omega) (by omega)
  have hq1 : (a2 + a5) / ((l0.length : Int) + 1) ≤ 4295167296 := Int.le_trans (Int.ediv_le_self _ (by omega)) (by omega)
  have ha0 : 0 ≤ (a2 + a5) % ((l0.length : Int) + 1) := Int.emod_nonneg _ (by omega)
  have ha1 : (a2 + a5) % ((l0.length : Int) + 1) < l0.length + 1 := Int.emod_lt_of_pos _ (by omega)
  have H := Aside0.mk h
  clear h
  have hcb : a1 + (a2 + a5) / ((l0.length : Int) + 1) ≤ 4300000000 := by omega
  have hca : 0 ≤ a1 + (a2 + a5) / ((l0.length : Int) + 1) := by omega
  generalize hc : a1 + (a2 + a5) / ((l0.length : Int) + 1) = c at hcb hca H
  generalize hat : (a2 + a5) % ((l0.length : Int) + 1) = at_ at ha0 ha1 H
  have HC := Aside0.mk hc
  have HAT := Aside0.mk hat
  have hc2 := hc
  have hat2 := hat
  obtain ⟨m, rfl⟩ := Int.eq_ofNat_of_zero_le ha0
  have hm : m ≤ l0.length := by omega
  obtain ⟨i09, hi09, _, hsz9, _⟩ := info_parts info21
  have hle := (Kd.R_reads' HR.out).2.1
  obtain ⟨hcutT, hAT, hCT⟩ := print_take_of (P := Try.prog) (Value.int .i32) 0 22 21 .i64 Try.underlying22 hi09 hsz9 A0 c0 l0 (m : Int) (by omega) (by omega) hle
  obtain ⟨A1, hcutD, hAD, hCD⟩ := print_drop_of (P := Try.prog) (Value.int .i32) 0 22 21 .i64 Try.underlying22 hi09 hsz9 A0 c0 l0 (m : Int) (by omega) (by omega) hle
  have hl1 : (l0.take m).length = m := by simp; omega
  have hl2 : (l0.drop m).length = l0.length - m := by simp
  simp only [Int.toNat_natCast, hl1, hl2] at hAT hAD hcutT hcutD
  clear hl1 hl2
  have HAT' := Aside0.mk hAT
  have HAD' := Aside0.mk hAD
  have HRD : Aside0 (Kd.C (Kd.int .i32) w A0 l0.length l0) := ⟨(Kd.R_reads' HR.out).2.2⟩
  clear hAT hAD hCT hCD hi09 hsz9 hat hc
  go_enter Try.func25, Try.ntmps25
  go_wp2_with (fail)
  go_region
  clear hc2
  by_cases c1 : 1114111 < c
  · have c1b : decide (1114111 < c) = true := decide_eq_true c1
    go_wp2_with (fail)
    have hr := H.out
    rw [if_neg (by omega)] at hr
    simp only [Option.some.injEq, Prod.mk.injEq] at hr
    obtain ⟨rfl, rfl, rfl, rfl, rfl, rfl⟩ := hr
    apply ret_ct 4 5 45 (w.heap.size + 1) 45 #[.slice A0 l0.length c0, .int .i64 c, .int .i64 a2, .int .i64 a3, .bool a4]
    case h => rfl
    case hd => rfl
    case hi => kernel_rfl
    case hu => exact Try.underlying45
    case hs => rfl
    case' hR => refine ⟨_, rfl, ?_, ?_, ?_⟩
    rotate_left 3
    · rfl
    · first | exact blk_drew (blk_second _ _ _) | exact blk_drewN (blk_second _ _ _) _
    · exact Kd.R_mono (Kd.R_below HR.out (by first | exact pw_below_drewN (below_alloc (below_alloc (Below.refl _ _) _) _) _ | exact below_drew1 (below_alloc (below_alloc (Below.refl _ _) _) _))) (fun k hk => .inl hk)
    · exact below_step HB.out (by first | exact pw_below_drewN (below_alloc (below_alloc (Below.refl _ _) _) _) _ | exact below_drew1 (below_alloc (below_alloc (Below.refl _ _) _) _))
    · exact Kept.of_below (by first | exact pw_below_drewN (below_alloc (below_alloc (Below.refl _ _) _) _) _ | exact below_drew1 (below_alloc (below_alloc (Below.refl _ _) _) _)) _
  · have c1b : decide (1114111 < c) = false := decide_eq_false c1
    go_wp2_with (fail)
    refine (endonymref3_Valid.calls _ _ _ (valid3_f _)).mono ?_
    rintro e w3 ⟨rfl, ⟨nd3, rfl⟩⟩
    cases hv : validI c
    · go_wp2_with (fail)
      have hr := H.out
      rw [if_neg (by rw [hv]; simp)] at hr
      simp only [Option.some.injEq, Prod.mk.injEq] at hr
      obtain ⟨rfl, rfl, rfl, rfl, rfl, rfl⟩ := hr
      apply ret_ct 4 5 45 (w.heap.size + 1) 45 #[.slice A0 l0.length c0, .int .i64 c, .int .i64 a2, .int .i64 a3, .bool a4]
      case h => rfl
      case hd => rfl
      case hi => kernel_rfl
      case hu => exact Try.underlying45
      case hs => rfl
      case' hR => refine ⟨_, rfl, ?_, ?_, ?_⟩
      rotate_left 3
      case hp => rfl
      case hg =>
        refine blk_put (cs := #[.slice A0 l0.length c0, .int .i64 c, .int .i64 a2, .int .i64 a3, .bool false]) ?_ 4 _ rfl
        refine blk_put (cs := #[.slice A0 l0.length c0, .int .i64 c, .int .i64 a2, .int .i64 0, .bool false]) ?_ 3 _ rfl
        refine blk_put (cs := #[.slice A0 l0.length c0, .int .i64 c, .int .i64 0, .int .i64 0, .bool false]) ?_ 2 _ rfl
        refine blk_put (cs := #[.slice A0 l0.length c0, .int .i64 0, .int .i64 0, .int .i64 0, .bool false]) ?_ 1 _ rfl
        refine blk_put (cs := #[.slice none 0 0, .int .i64 0, .int .i64 0, .int .i64 0, .bool false]) ?_ 0 _ rfl
        exact blk_drewN (blk_second _ _ _) _
      · refine Kd.R_mono (Kd.R_below HR.out ?_) (fun k hk => .inl hk)
        iterate 5 refine below_set ?_ (by omega)
        exact pw_below_drewN (below_alloc (below_alloc (Below.refl _ _) _) _) _
      · refine below_step HB.out ?_
        iterate 5 refine below_set ?_ (by omega)
        exact pw_below_drewN (below_alloc (below_alloc (Below.refl _ _) _) _) _
      · refine Kept.of_below ?_ _
        iterate 5 refine below_set ?_ (by omega)
        exact pw_below_drewN (below_alloc (below_alloc (Below.refl _ _) _) _) _
    · go_wp2_with (first | ((with_reducible refine gate_builtin (b := .append) (xs := #[.tmp 38, .tmp 42]) rfl ?_); at_builtin; refine Kd.R_append_rows (Kd.int .i32) (w0 := w) w.heap.size rfl (.tmp 38) (.tmp 42) 22 21 (.int .i32 0) 4 rfl Try.underlying22 info21 rfl (by decide) (by omega) (.slice none 0 0) ([] : List Int) (l0.take m) _ _ _ (fun _ => True) (fun _ => False) rfl rfl ?aO ?aR (fun _ _ h => h) (fun _ h => h.elim) ?aF ?aB ?aS ?aL ?_; (case aO => exact Kd.R_nil _ _ _ _ _); (case aR => exact Kd.C_of_reads (h1 := fun _ => rfl) (HAT'.out _ (Kd.reads_of_C (Kd.C_below HRD.out (pw_below_drewN (below_alloc (below_alloc (Below.refl _ _) _) _) _))))); (case aF => exact fun _ _ => trivial); (case aB => exact pw_below_drewN (below_alloc (below_alloc (Below.refl _ _) _) _) _); (case aS => simp; omega); (case aL => simp; omega); intro v1 w5 ho hb hg hat5; have HO5 := Aside0.mk ho; have HB5 := Aside0.mk hb; have HG5 := Aside0.mk hg; clear ho hb hg hat5; have HX5 : Aside0 (w5.heap[w.heap.size]? = some (.cells #[.slice A0 l0.length c0, .int .i64 c, .int .i64 a2, .int .i64 a3, .bool a4] 45 (0, 0))) := ⟨blk_grown (blk_drewN (blk_alloc (blk_new _ _) _) _) HG5.out (by simp [Value.ownBlock])⟩; have HZ5 : Aside0 (w5.heap[w.heap.size + 1]? = some (.cells #[.slice none 0 0, .int .i64 0, .int .i64 0, .int .i64 0, .bool false] 45 (0, 0))) := ⟨blk_grown (blk_drewN (by have := blk_new (w.alloc (.cells #[.slice A0 l0.length c0, .int .i64 c, .int .i64 a2, .int .i64 a3, .bool a4] 45)) (.cells #[.slice none 0 0, .int .i64 0, .int .i64 0, .int .i64 0, .bool false] 45); simpa using this) _) HG5.out (by simp [Value.ownBlock])⟩; clear HG5; have x0 := (blk_cell HX5.out 0).trans (show _ = some (Value.slice A0 l0.length c0) from rfl); have x1 := (blk_cell HX5.out 1).trans (show _ = some (Value.int .i64 c) from rfl); have hl1 : (l0.take m).length ≤ m := (by simp; omega)) | ((with_reducible refine gate_builtin (b := .append) (xs := #[.tmp 44, .tmp 48]) rfl ?_); at_builtin; refine Kd.R_append (Kd.int .i32) (w0 := w) w.heap.size rfl (.tmp 44) (.tmp 48) 22 21 (.int .i32 0) 4 rfl Try.underlying22 info21 rfl (by decide) (by omega) v1 (l0.take m) c [.int .i32 c] (fun _ => True) (fun _ => False) rfl rfl ?aP (fun _ hk => hk.elim) ?aF ?aO ?aB ?aS ?aL ?_; (case aP => exact rfl); (case aF => exact (fun _ _ => trivial)); (case aO => exact HO5.out); (case aB => exact HB5.out); (case aS => exact (below_size HB5.out)); (case aL => omega); intro v2 w6 ho hb hg hat5; have HO6 := Aside0.mk ho; have HB6 := Aside0.mk hb; have HG6 := Aside0.mk hg; clear ho hb hg hat5; have HX6 : Aside0 (w6.heap[w.heap.size]? = some (.cells #[.slice A0 l0.length c0, .int .i64 c, .int .i64 a2, .int .i64 a3, .bool a4] 45 (0, 0))) := ⟨blk_grown HX5.out HG6.out (Kd.R_ne HO5.out HX5.out (by decide))⟩; have HZ6 : Aside0 (w6.heap[w.heap.size + 1]? = some (.cells #[.slice none 0 0, .int .i64 0, .int .i64 0, .int .i64 0, .bool false] 45 (0, 0))) := ⟨blk_grown HZ5.out HG6.out (Kd.R_ne HO5.out HZ5.out (by decide))⟩; clear HG6 HX5 HZ5 x0 x1; have x0 := (blk_cell HX6.out 0).trans (show _ = some (Value.slice A0 l0.length c0) from rfl)) | ((with_reducible refine gate_builtin (b := .append) (xs := #[.tmp 50, .tmp 54]) rfl ?_); at_builtin; refine Kd.R_append_rows (Kd.int .i32) (w0 := w) w.heap.size rfl (.tmp 50) (.tmp 54) 22 21 (.int .i32 0) 4 rfl Try.underlying22 info21 rfl (by decide) (by omega) v2 (l0.take m ++ [c]) (l0.drop m) _ _ _ (fun _ => True) (fun _ => False) rfl rfl ?aO ?aR (fun _ _ h => h) (fun _ h => h.elim) ?aF ?aB ?aS ?aL ?_; (case aO => exact HO6.out); (case aR => exact Kd.C_of_reads (h1 := fun _ => rfl) (HAD'.out _ (Kd.reads_of_C (Kd.C_below HRD.out HB6.out)))); (case aF => exact fun _ _ => trivial); (case aB => exact HB6.out); (case aS => exact below_size HB6.out); (case aL => simp; omega); intro v3 w7 ho hb hg hat5; obtain ⟨A7, c7, e7⟩ := Kd.R_slice ho; subst e7; (generalize (l0.take m ++ [c] ++ l0.drop m).length = n7 at ho ⊢); have HO7 := Aside0.mk ho; have HB7 := Aside0.mk hb; have HG7 := Aside0.mk hg; clear ho hb hg hat5; have HX7 : Aside0 (w7.heap[w.heap.size]? = some (.cells #[.slice A0 l0.length c0, .int .i64 c, .int .i64 a2, .int .i64 a3, .bool a4] 45 (0, 0))) := ⟨blk_grown HX6.out HG7.out (Kd.R_ne HO6.out HX6.out (by decide))⟩; have HZ7 : Aside0 (w7.heap[w.heap.size + 1]? = some (.cells #[.slice none 0 0, .int .i64 0, .int .i64 0, .int .i64 0, .bool false] 45 (0, 0))) := ⟨blk_grown HZ6.out HG7.out (Kd.R_ne HO6.out HZ6.out (by decide))⟩; clear HG7 HX6 HZ6 x0; have x0 := (blk_cell HX7.out 0).trans (show _ = some (Value.slice A0 l0.length c0) from rfl); have x4 := (blk_cell HX7.out 4).trans (show _ = some (Value.bool a4) from rfl); have f0 := blk_frozen HX7.out 0))
      refine (endonymref11_Adapt.calls 22 a5 ((l0.length : Int) + 1) a4 (adaptI a5 (l0.length + 1) a4) _ (by rw [radapt_eq]; exact adapt_f _ _ _ (by omega) (by omega) 22 (by omega))).mono ?_
      rintro e w8 ⟨rfl, hb8⟩
      have HB8 := Aside0.mk hb8
      clear hb8 x0 x4 f0
      have HX8 : Aside0 (w8.heap[w.heap.size]? = some (.cells #[.slice A7 n7 c7, .int .i64 c, .int .i64 a2, .int .i64 a3, .bool a4] 45 (0, 0))) := ⟨blk_below (blk_put HX7.out 0 _ rfl) HB8.out⟩
      have HZ8 : Aside0 (w8.heap[w.heap.size + 1]? = some (.cells #[.slice none 0 0, .int .i64 0, .int .i64 0, .int .i64 0, .bool false] 45 (0, 0))) := ⟨blk_below (blk_far HZ7.out (by simp) _) HB8.out⟩
      have HO8 : Aside0 (Kd.R (Kd.int .i32) 21 w8 w.heap.size (fun _ => True) (.slice A7 n7 c7) (l0.take m ++ [c] ++ l0.drop m)) := ⟨Kd.R_below (Kd.R_set HO7.out HX7.out (by decide) 0 _) HB8.out⟩
      have HB9 : Aside0 (Below w.heap.size w w8) := ⟨below_step (below_set HB7.out (Nat.le_refl _)) HB8.out⟩
      clear HX7 HZ7 HO7 HB8
      have x0 := (blk_cell HX8.out 0).trans (show _ = some (.slice A7 n7 c7) from rfl)
      have x1 := (blk_cell HX8.out 1).trans (show _ = some (Value.int .i64 c) from rfl)
      have x2 := (blk_cell HX8.out 2).trans (show _ = some (Value.int .i64 a2) from rfl)
      have x3 := (blk_cell HX8.out 3).trans (show _ = some (Value.int .i64 a3) from rfl)
      have x4 := (blk_cell HX8.out 4).trans (show _ = some (Value.bool a4) from rfl)
      have f2 := blk_frozen HX8.out 2
      have f3 := blk_frozen HX8.out 3
      have f4 := blk_frozen HX8.out 4
      have y0 := (blk_cell HZ8.out 0).trans (show _ = some (.slice none 0 0) from rfl)
      have y1 := (blk_cell HZ8.out 1).trans (show _ = some (Value.int .i64 0) from rfl)
      have y2 := (blk_cell HZ8.out 2).trans (show _ = some (Value.int .i64 0) from rfl)
      have y3 := (blk_cell HZ8.out 3).trans (show _ = some (Value.int .i64 0) from rfl)
      have y4 := (blk_cell HZ8.out 4).trans (show _ = some (Value.bool false) from rfl)
      have g0 := blk_frozen HZ8.out 0
      have g1 := blk_frozen HZ8.out 1
      have g2 := blk_frozen HZ8.out 2
      have g3 := blk_frozen HZ8.out 3
      have g4 := blk_frozen HZ8.out 4
      have HZ8' : Aside0 (((((w8.setCell ⟨w.heap.size, 3, none⟩ (.int .i64 (adaptI a5 (l0.length + 1) a4))).setCell ⟨w.heap.size, 4, none⟩ (.bool false)).setCell ⟨w.heap.size, 2, none⟩ (.int .i64 (m + 1)))).heap[w.heap.size + 1]? = some (.cells #[.slice none 0 0, .int .i64 0, .int .i64 0, .int .i64 0, .bool false] 45 (0, 0))) := ⟨blk_far (blk_far (blk_far HZ8.out (by simp) _) (by simp) _) (by simp) _⟩
      go_wp2_with (fail)
      have hr := H.out
      rw [if_pos ⟨c1, hv⟩, Int.toNat_natCast] at hr
      simp only [Option.some.injEq, Prod.mk.injEq] at hr
      obtain ⟨rfl, rfl, rfl, rfl, rfl, rfl⟩ := hr
      apply ret_ct 4 5 45 (w.heap.size + 1) 45 #[.slice A7 n7 c7, .int .i64 c, .int .i64 (m + 1), .int .i64 (adaptI a5 (l0.length + 1) a4), .bool false]
      case h => rfl
      case hd => rfl
      case hi => kernel_rfl
      case hu => exact Try.underlying45
      case hs => rfl
      case' hR => refine ⟨_, rfl, ?_, ?_, ?_⟩
      rotate_left 3
      case hp => rfl
      case hg =>
        refine blk_put (cs := #[.slice A7 n7 c7, .int .i64 c, .int .i64 (m + 1), .int .i64 (adaptI a5 (l0.length + 1) a4), .bool false]) ?_ 4 _ rfl
        refine blk_put (cs := #[.slice A7 n7 c7, .int .i64 c, .int .i64 (m + 1), .int .i64 0, .bool false]) ?_ 3 _ rfl
        refine blk_put (cs := #[.slice A7 n7 c7, .int .i64 c, .int .i64 0, .int .i64 0, .bool false]) ?_ 2 _ rfl
        refine blk_put (cs := #[.slice A7 n7 c7, .int .i64 0, .int .i64 0, .int .i64 0, .bool false]) ?_ 1 _ rfl
        refine blk_put HZ8'.out 0 _ rfl
      · have h9 := Kd.R_types (Kd.R_types HO8.out HX8.out (by decide)) HZ8.out (by decide)
        have e9 : (l0.take m ++ c :: l0.drop m) = l0.take m ++ [c] ++ l0.drop m := by simp
        rw [e9]
        refine Kd.R_lower (Kd.R_mono (Kd.R_bound (ok := fun k => (True ∧ k ≠ w.heap.size) ∧ k ≠ w.heap.size + 1) ?_) (fun k hk => .inr hk.2.1)) HB.out.size
        iterate 5 refine Kd.R_far (p := ⟨w.heap.size + 1, _, none⟩) ?_ (fun k hk => hk.2) _
        iterate 3 refine Kd.R_far (p := ⟨w.heap.size, _, none⟩) ?_ (fun k hk => hk.1.2) _
        exact h9
      · refine below_step HB.out ?_
        iterate 8 refine below_set ?_ (by omega)
        exact HB9.out
      · refine Kept.of_below ?_ _
        iterate 8 refine below_set ?_ (by omega)
        exact HB9.out
end Go.Proofs.Yticocjpfhllelaa.XP
