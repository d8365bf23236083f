/- order: refused, opened. -/
import Derived.Test.YtnohcnneflogjaaGreatK42
import Derived.Test.YtnohcnneflogjaaGreatK39
import Derived.Test.YtnohcnneflogjaaGreatK18
import Derived.Test.YtnohcnneflogjaaGreatK38
import Derived.OwnWalk
import Derived.Test.YtnohcnneflogjaaGreatK37
set_option maxHeartbeats 8000000
set_option maxRecDepth 1000000
set_option linter.unusedVariables false
set_option linter.unusedSimpArgs false
namespace Go.Proofs.YtnohcnneflogjaaGreat.M.St
open Go.Shelf Go.RowKit Go.Lib Go.Sort
theorem own_base {w : World} {b b' : Nat} {e : TypeId} {s : Nat} {v : Value} {n : Nat} {xs : List Value} (h : w.ownsRow b e s v n xs) (hb : b' ≤ b) : w.ownsRow b' e s v n xs := by
 refine ⟨h.1, ?_⟩
 rcases h.2 with h | ⟨g, cap, cur, h1, h2, h3⟩
 ·exact .inl h
 ·exact .inr ⟨g, cap, cur, h1, Nat.le_trans hb h2, h3⟩
def openX (T : List Rec) (x : List Int) : List Int := x.flatMap (fullL T)
theorem openX_take (T : List Rec) (x : List Int) {i : Nat} (h : i < x.length) : openX T (x.take (i + 1)) = openX T (x.take i) ++ fullL T (x[i]) := by
 unfold openX
 rw [List.take_succ_eq_append_getElem h, List.flatMap_append]
 simp
theorem full_len {T : List Rec} (hF : Fine T) (c : Int) : (fullL T c).length ≤ 32 := fullF_len (hF.full c)
theorem openX_len {T : List Rec} (hF : Fine T) : ∀ x : List Int, (openX T x).length ≤ 32 * x.length
 | [] => by simp [openX]
 | c :: t => by
   have h1 := full_len hF c
   have h2 := openX_len hF t
   unfold openX at *
   rw [List.flatMap_cons, List.length_append, List.length_cons]
   omega
theorem openX_range {T : List Rec} (hF : Fine T) (hW : ∀ x ∈ T, x.Wf) {x : List Int} (h : InI32 x) : InI32 (openX T x) := by
 intro z hz
 unfold openX at hz
 obtain ⟨c, hc, hz⟩ := List.mem_flatMap.1 hz
 exact fullF_range hW (h c hc).1 (h c hc).2 (hF.full c) z hz
theorem refused_ok (bd g n c : Nat) (w : World) (hn : n ≤ 1000) (h : ∀ i, i < n → ∃ A m k, w.cell? ⟨g, i, none⟩ = some (.slice A m k) ∧ m ≤ 65536) : Calls Tryz.prog 76 #[.pointer (some ⟨bd, 0, none⟩), .slice (some ⟨g, 0, none⟩) n c] w fun e w' => e = .returned (.int .i64 0) ∧ w = w' := by
 have HH := Az.mk h
 clear h
 go_enter Tryz.func76, Tryz.ntmps76
 go_wp2
 go_loopg [11] n (fun j v11 wr => ∃ i : Nat, v11 = .int .i64 i ∧ Az (i + j = n) ∧ w = wr)
 case atStart => exact ⟨0, rfl, ⟨Nat.zero_add _⟩, rfl⟩
 case round =>
  obtain ⟨i, rfl, HI, rfl⟩ := hrel
  cases gk with
  | zero =>
    have hlt : decide ((i : Int) < (n : Int)) = false := dFz (by have := HI.out; omega)
    have hlt1 : ¬ (i < n) := by have := HI.out; omega
    go_wp2
    go_ret
    exact ⟨rfl, rfl⟩
  | succ k2 =>
    have hi : i < n := by have := HI.out; omega
    have hlt : decide ((i : Int) < (n : Int)) = true := dTz (by omega)
    have z1 : (i : Int) < (n : Int) := by omega
    obtain ⟨A, m, k, y1, hm⟩ := HH.out i hi
    have hgt : decide ((m : Int) > 65536) = false := dFz (by omega)
    have hgt1 : ¬ (65536 < m) := by omega
    have hgt2 : ¬ ((m : Int) > 65536) := by omega
    go_wp2
    go_roundg k2
    case measure => omega
    case rel => exact ⟨i + 1, rfl, ⟨by have := HI.out; omega⟩, rfl⟩
theorem opened_calls {H : Nat} {w : World} {bd : Nat} {D : DataV} {T : List Rec} (hD : DataAt H w bd D T) (hF : Fine T) (A : Option Addr) (c : Nat) (x : List Int) (hI : Ints .i32 w A x) (hr : InI32 x) (hx : x.length ≤ 70000) (ys : List Int) (hys : openX T x = ys) :
 Calls Tryz.prog 77 #[.pointer (some ⟨bd, 0, none⟩), .slice A x.length c] w (RetRow ys w) := by
 obtain ⟨ie, ze, hie, hze, hsi, hby, hzc⟩ := i32_info
 have HD := Az.mk hD
 have HF := Az.mk hF
 have HX := Az.mk hI
 have HR := Az.mk hr
 have HYS := Az.mk hys
 have HLEN : Az (x.length ≤ maxLen ∧ ie.bytes * x.length ≤ 281474976710656) := ⟨by rw [hby]; refine ⟨?_, ?_⟩ <;> (try simp [maxLen]) <;> omega⟩
 obtain ⟨w1, hmk, hown1, hgrow1⟩ := run_make_own (P := Tryz.prog) w w.heap.size 23 21 ie ze 1 Tryz.underlying23 hie hze hsi .i64 .i64 x.length HLEN.out.2 HLEN.out.1 (Nat.le_refl _)
 have HU1 : Az (Up w w1) := ⟨up_nil (v := .slice none 0 0) hgrow1 rfl⟩
 have HO1 := Az.mk hown1
 clear hD hF hI hr hys hown1 hgrow1
 go_enter Tryz.func77, Tryz.ntmps77
 go_wp2
 go_loopg [5, 13] x.length (fun k v5 v13 wr => ∃ (i : Nat) (q : List Int) (Aq : Option Addr) (cq : Nat), v13 = .int .i64 i ∧ v5 = .slice Aq q.length cq ∧ Az (i + k = x.length) ∧ Az (openX T (x.take i) = q) ∧ Az (wr.ownsRow w.heap.size 21 1 (.slice Aq q.length cq) q.length (q.map (Value.int .i32))) ∧ Az (Up w wr))
 case atStart => exact ⟨0, [], _, _, rfl, rfl, ⟨Nat.zero_add _⟩, ⟨by simp [openX]⟩, HO1, HU1⟩
 case round =>
  obtain ⟨i, q, Aq, cq, rfl, rfl, HI, HQ, HO, HU⟩ := hrel
  clear HU1 HO1 hmk
  cases gk with
  | zero =>
    have hlt : decide ((i : Int) < (x.length : Int)) = false := dFz (by have := HI.out; omega)
    have hlt1 : ¬ (i < x.length) := by have := HI.out; omega
    go_wp2
    go_ret
    have e := HQ.out
    rw [List.take_of_length_le (by omega), HYS.out] at e
    subst e
    exact ⟨_, rfl, HO.out, HU.out⟩
  | succ k =>
    have hi : i < x.length := by have := HI.out; omega
    have hlt : decide ((i : Int) < (x.length : Int)) = true := dTz (by omega)
    have z1 : (i : Int) < (x.length : Int) := by omega
    obtain ⟨ad, hA, y1⟩ := HX.out.at_ i (by omega) z1
    have y2 := up_cell HU.out y1
    rw [Int.toNat_natCast] at y2
    subst hA
    clear y1
    obtain ⟨d, hd⟩ : ∃ d, x[i] = d := ⟨_, rfl⟩
    rw [rd_elem x i hi, hd] at y2
    have HR1 : Az (-2147483648 ≤ d ∧ d ≤ 2147483647) := ⟨HR.out d (by rw [← hd]; exact List.getElem_mem _)⟩
    obtain ⟨l, hl⟩ : ∃ l, fullL T d = l := ⟨_, rfl⟩
    have HLL : Az (l.length ≤ 32) := ⟨by rw [← hl]; exact full_len HF.out d⟩
    have HQL : Az (q.length ≤ 32 * x.length) := ⟨by
     rw [← HQ.out]
     refine Nat.le_trans (openX_len HF.out _) ?_
     rw [List.length_take]
     omega⟩
    have HNX : Az (openX T (x.take (i + 1)) = q ++ l) := ⟨by rw [openX_take T x hi, HQ.out, hd, hl]⟩
    have HFC := Az.mk ((HD.out.up HU.out).Full HF.out d l hl HR1.out.1 HR1.out.2)
    have HMX : Az (q.length + l.length ≤ maxLen ∧ (q.length + l.length) * 4 ≤ 140737488355328) := ⟨by
     have h1 := HLL.out
     have h2 := HQL.out
     refine ⟨?_, by omega⟩
     show q.length + l.length ≤ 9223372036854775807
     omega⟩
    obtain ⟨_, ⟨a7, a8, a9, a10, a11⟩, _, _, _, _, _⟩ := (HD.out.up HU.out).all
    clear hd hl
    go_wp2_with (first | (go_at_call 28; (with_reducible refine HFC.out.mono ?_); rintro e w1 ⟨v1, rfl, hown1, hup1⟩; obtain ⟨A1, c1, hv1, hi1, _⟩ := own_ints hown1; subst hv1; have HU2 := Az.mk hup1; have HI1 := Az.mk hi1; clear hown1 hup1 hi1) |
     (at_builtin; refine (wpList_append_row _ rfl _ _ 23 rfl w.heap.size 21 ie ze 1 4 Tryz.underlying23 hie hze hsi hby hzc (by decide) _ q.length (q.map (Value.int .i32)) rfl (own_up HO.out HU2.out) A1 l.length c1 (l.map (Value.int .i32)) rfl (by simp) HI1.out (ints_one _ _) ?ha ?hb ?hc ?_); (case ha => exact HMX.out.1); (case hb => exact HMX.out.2); (case hc => exact (up_trans HU.out HU2.out).size); intro v' w3 hown' hgrow hat'; have HO3 : Az (w3.ownsRow w.heap.size 21 1 v' (q ++ l).length ((q ++ l).map (Value.int .i32))) := ⟨by rw [List.length_append, List.map_append]; exact hown'⟩; obtain ⟨A3, c3, hv3⟩ := own_any HO3.out; subst hv3; have HG3 := Az.mk hgrow; clear hown' hgrow hat'))
    go_roundg k
    case measure => omega
    case rel =>
     have hup : Up w w3 := by
      have h1 := up_trans HU.out HU2.out
      exact Below.grown h1 HG3.out h1.size (fun k hk => (HO.out.lt k hk).1)
     exact ⟨i + 1, q ++ l, A3, c3, by go_num, by rw [List.length_append], ⟨by have := HI.out; omega⟩, HNX, HO3, ⟨hup⟩⟩
end Go.Proofs.YtnohcnneflogjaaGreat.M.St
namespace Go.Proofs.YtnohcnneflogjaaGreat.M.St
open Go.Shelf Go.RowKit Go.Lib Go.Sort
def RetRow0 (l : List Int) (w : World) (e : Ending) (w' : World) : Prop := ∃ v, e = .returned (.tuple #[v, .int .i64 0]) ∧ w'.ownsRow w.heap.size 21 1 v l.length (l.map (Value.int .i32)) ∧ Up w w'
theorem cell_slice (w : World) (v : Value) (t : TypeId) (ad : Nat) (had : ad = w.heap.size) : (w.alloc (.cells #[v] t)).cell? ⟨ad, 0, none⟩ = some v := by
 subst had
 exact cell_of_row _ _ _ _ _ (0, 0) (heap_alloc_new w _)
theorem one_ok {w : World} {A : Option Addr} {n c : Nat} (hn : n ≤ 65536) {t : TypeId} : ∀ i, i < 1 → ∃ A' m k, (w.alloc (.cells #[.slice A n c] t)).cell? ⟨w.heap.size, i, none⟩ = some (.slice A' m k) ∧ m ≤ 65536 := by
 intro i hi
 have : i = 0 := by omega
 subst this
 exact ⟨A, n, c, cell_slice _ _ _ _ rfl, hn⟩
theorem up_own {w w1 W : World} {v : Value} {e : TypeId} {size n : Nat} {xs : List Value} (hu : Up w w1) (ho : w1.ownsRow w.heap.size e size v n xs) (hc : Chg (fun k => v.ownBlock = some k) w1 W) : Up w W :=
 hu.trans (hc.below hu.size (fun k hk => (ho.lt k hk).1))
section
variable {H : Nat} {w : World} {bd : Nat} {D : DataV} {T : List Rec}
theorem Open_calls (hD : DataAt H w bd D T) (hF : Fine T) (A : Option Addr) (c : Nat) (x : List Int) (hI : Ints .i32 w A x) (hr : InI32 x) (hx : x.length ≤ 65536) (ys : List Int) (hys : openX T x = ys) :
 Calls Tryz.prog 31 #[.pointer (some ⟨bd, 0, none⟩), .slice A x.length c] w (RetRow0 ys w) := by
 have HD := Az.mk hD
 have HX := Az.mk hI
 have HR := Az.mk hr
 have HYS := Az.mk hys
 have HF := Az.mk hF
 have HRF := Az.mk (refused_ok bd w.heap.size 1 1 (w.alloc (.cells #[.slice A x.length c] 23)) (by decide) (one_ok hx))
 have HUP : Az (Up w (w.alloc (.cells #[.slice A x.length c] 23))) := ⟨up_alloc (up_refl _) _⟩
 clear hD hI hr hys hF
 go_enter Tryz.func31, Tryz.ntmps31
 go_wp2_with (first | (go_at_call 76; (with_reducible refine HRF.out.mono ?_); rintro e w1 ⟨rfl, rfl⟩) | (go_at_call 77; (with_reducible refine (opened_calls (HD.out.up HUP.out) HF.out A c x (HX.out.up HUP.out) HR.out (by omega) ys HYS.out).mono ?_); rintro e w1 ⟨v1, rfl, hown1, hup1⟩; have HO1 := Az.mk hown1; have HU1 := Az.mk hup1; clear hown1 hup1))
 go_ret2
 exact ⟨_, rfl, own_base HO1.out HUP.out.size, up_trans HUP.out HU1.out⟩
theorem NFD_calls (hD : DataAt H w bd D T) (hF : Fine T) (hW : ∀ x ∈ T, x.Wf) (A : Option Addr) (c : Nat) (x : List Int) (hI : Ints .i32 w A x) (hr : InI32 x) (hx : x.length ≤ 65536) (ys : List Int) (hys : sortF T (openX T x) = ys) :
 Calls Tryz.prog 24 #[.pointer (some ⟨bd, 0, none⟩), .slice A x.length c] w (RetRow0 ys w) := by
 have HD := Az.mk hD
 have HX := Az.mk hI
 have HR := Az.mk hr
 have HYS := Az.mk hys
 have HF := Az.mk hF
 have HRF := Az.mk (refused_ok bd w.heap.size 1 1 (w.alloc (.cells #[.slice A x.length c] 23)) (by decide) (one_ok hx))
 have HUP : Az (Up w (w.alloc (.cells #[.slice A x.length c] 23))) := ⟨up_alloc (up_refl _) _⟩
 obtain ⟨q, hq⟩ : ∃ q, openX T x = q := ⟨_, rfl⟩
 have HQ := Az.mk hq
 have HQR : Az (InI32 q) := ⟨by rw [← hq]; exact openX_range hF hW hr⟩
 have HYL : Az (ys.length = q.length) := ⟨by rw [← hys, hq]; unfold sortF; rw [runF_length]; simp⟩
 have HQL : Az (q.length ≤ 1073741824) := ⟨by rw [← hq]; have := openX_len hF x; omega⟩
 clear hD hI hr hys hF hq hW
 go_enter Tryz.func24, Tryz.ntmps24
 go_wp2_with (first | (go_at_call 76; (with_reducible refine HRF.out.mono ?_); rintro e w1 ⟨rfl, rfl⟩) | (go_at_call 77; (with_reducible refine (opened_calls (HD.out.up HUP.out) HF.out A c x (HX.out.up HUP.out) HR.out (by omega) q HQ.out).mono ?_); rintro e w1 ⟨v1, rfl, hown1, hup1⟩; have HO1 := Az.mk (own_base hown1 HUP.out.size); have HU1 := Az.mk (up_trans HUP.out hup1); obtain ⟨A1, c1, hv1⟩ := own_any hown1; subst hv1; have HSC := Az.mk (sort_calls HF.out.toGood w.heap.size A1 q.length c1 q (fun W hW => HD.out.up (up_own HU1.out HO1.out hW)) HO1.out (fun z hz => HQR.out z hz) HQL.out ys (by have := HYS.out; rw [HQ.out] at this; exact this)); clear hown1 hup1) |
  (go_at_call 78; (with_reducible refine HSC.out.mono ?_); rintro e w2 ⟨rfl, hown2, hchg2⟩; have HO2 := Az.mk hown2; have HU2 := Az.mk (up_own HU1.out HO1.out hchg2); clear hown2 hchg2))
 go_ret2
 refine ⟨_, rfl, ?_, HU2.out⟩
 rw [HYL.out]
 exact HO2.out
end
def sortedG (cl : Int → Int) : Int → List Int → Bool
 | _, [] => true
 | a, c :: t => if cl c ≠ 0 ∧ a > cl c then false else sortedG cl (cl c) t
section
variable {H : Nat} {w : World} {bd : Nat} {D : DataV} {T : List Rec}
theorem Sorted_calls (hD : DataAt H w bd D T) (hG : Good T) (A : Option Addr) (c : Nat) (x : List Int) (hI : Ints .i32 w A x) (hr : InI32 x) (hx : x.length ≤ 100000000) (b : Bool) (hb : sortedG (numF T 2 (·.n)) 0 x = b) :
 Calls Tryz.prog 35 #[.pointer (some ⟨bd, 0, none⟩), .slice A x.length c] w fun e w' => e = .returned (.bool b) ∧ Up w w' := by
 obtain ⟨cl, hcl⟩ : ∃ cl, numF T 2 (·.n) = cl := ⟨_, rfl⟩
 have HD := Az.mk hD
 have HX := Az.mk hI
 have HR := Az.mk hr
 have HB := Az.mk hb
 have HG := Az.mk hG
 have HCL := Az.mk hcl
 clear hD hI hr hb hG hcl
 go_enter Tryz.func35, Tryz.ntmps35
 go_wp2
 go_loopg [5, 13] x.length (fun k v5 v13 wr => ∃ (i : Nat) (a : Int), v13 = .int .i64 i ∧ v5 = .int .i64 a ∧ Az (i + k = x.length) ∧ Az (sortedG cl a (x.drop i) = b) ∧ Az (Up w wr))
 case atStart => exact ⟨0, 0, rfl, rfl, ⟨Nat.zero_add _⟩, ⟨by rw [← HCL.out]; exact HB.out⟩, ⟨up_refl _⟩⟩
 case round =>
  obtain ⟨i, a, rfl, rfl, HI, HS, HU⟩ := hrel
  cases gk with
  | zero =>
    have hlt : decide ((i : Int) < (x.length : Int)) = false := dFz (by have := HI.out; omega)
    have hlt1 : ¬ (i < x.length) := by have := HI.out; omega
    go_wp2
    go_ret
    have e := HS.out
    rw [List.drop_eq_nil_of_le (by omega)] at e
    exact ⟨by rw [← e]; rfl, HU.out⟩
  | succ k =>
    have hi : i < x.length := by have := HI.out; omega
    have hlt : decide ((i : Int) < (x.length : Int)) = true := dTz (by omega)
    have z1 : (i : Int) < (x.length : Int) := by omega
    obtain ⟨ad, hA, y1⟩ := HX.out.at_ i (by omega) z1
    have y2 := up_cell HU.out y1
    rw [Int.toNat_natCast] at y2
    subst hA
    clear y1
    obtain ⟨d, hd⟩ : ∃ d, x[i] = d := ⟨_, rfl⟩
    rw [rd_elem x i hi, hd] at y2
    have HR1 : Az (-2147483648 ≤ d ∧ d ≤ 2147483647) := ⟨HR.out d (by rw [← hd]; exact List.getElem_mem _)⟩
    obtain ⟨kk, hk⟩ : ∃ kk, cl d = kk := ⟨_, rfl⟩
    have HK := Az.mk hk
    have HDR : Az (x.drop i = d :: x.drop (i + 1)) := ⟨by rw [List.drop_eq_getElem_cons hi, hd]⟩
    have HFC := Az.mk ((HD.out.up HU.out).Class HG.out d kk (by rw [HCL.out]; exact HK.out) HR1.out.1 HR1.out.2)
    obtain ⟨⟨_, _, _, a3, _, _, _⟩, _, _, _, _, _, _⟩ := (HD.out.up HU.out).all
    clear hk hd
    by_cases hz : kk = 0
    ·have hz1 : (kk != 0) = false := by rw [hz]; rfl
     have HZ := Az.mk hz
     have hz2 : ¬ ¬ kk = 0 := fun h => h HZ.out
     clear hz
     go_wp2_with (first | (go_at_call 27; (with_reducible refine HFC.out.mono ?_); rintro e w1 ⟨rfl, hup1⟩; have HU1 := Az.mk hup1; clear hup1))
     go_roundg k
     case measure => omega
     case rel =>
      have e := HS.out
      rw [HDR.out, sortedG, if_neg (fun h => h.1 (HK.out.trans HZ.out)), HK.out] at e
      exact ⟨i + 1, kk, by go_num, rfl, ⟨by have := HI.out; omega⟩, ⟨e⟩, ⟨up_trans HU.out HU1.out⟩⟩
    ·have hz1 : (kk != 0) = true := bne_iff_ne.mpr hz
     have HZ := Az.mk hz
     by_cases hg : a > kk
     ·have hg1 : decide (a > kk) = true := dTz hg
      go_wp2_with (first | (go_at_call 27; (with_reducible refine HFC.out.mono ?_); rintro e w1 ⟨rfl, hup1⟩; have HU1 := Az.mk hup1; clear hup1))
      go_ret
      have e := HS.out
      rw [HDR.out, sortedG, HK.out, if_pos ⟨HZ.out, hg⟩] at e
      exact ⟨by rw [← e]; rfl, up_trans HU.out HU1.out⟩
     ·have hg1 : decide (a > kk) = false := dFz hg
      go_wp2_with (first | (go_at_call 27; (with_reducible refine HFC.out.mono ?_); rintro e w1 ⟨rfl, hup1⟩; have HU1 := Az.mk hup1; clear hup1))
      go_roundg k
      case measure => omega
      case rel =>
       have e := HS.out
       rw [HDR.out, sortedG, HK.out, if_neg (fun h => by have := h.2; omega)] at e
       exact ⟨i + 1, kk, by go_num, rfl, ⟨by have := HI.out; omega⟩, ⟨e⟩, ⟨up_trans HU.out HU1.out⟩⟩
end
end Go.Proofs.YtnohcnneflogjaaGreat.M.St
namespace Go.Proofs.YtnohcnneflogjaaGreat.M.St
abbrev Srt (L : List (Int × Int)) : Prop := L.Pairwise (fun a b => a.2 ≤ b.2)
theorem insM_perm (a : Int × Int) : ∀ L, (insM a L).Perm (a :: L)
 | [] => List.Perm.refl _
 | b :: t => by
   unfold insM
   split
   ·exact List.Perm.refl _
   ·exact ((insM_perm a t).cons b).trans (List.Perm.swap a b t)
theorem ordM_perm : ∀ L, (ordM L).Perm L
 | [] => List.Perm.refl _
 | a :: t => (insM_perm a (ordM t)).trans ((ordM_perm t).cons a)
theorem insM_srt (a : Int × Int) : ∀ L, Srt L → Srt (insM a L)
 | [], _ => by simp [insM, Srt]
 | b :: t, h => by
   unfold insM
   rw [Srt, List.pairwise_cons] at h
   split
   ·rename_i hab
    rw [Srt, List.pairwise_cons, List.pairwise_cons]
    refine ⟨fun x hx => ?_, h⟩
    rcases List.mem_cons.1 hx with rfl | hx
    ·exact hab
    ·have := h.1 x hx
     omega
   ·rename_i hab
    rw [Srt, List.pairwise_cons]
    refine ⟨fun x hx => ?_, insM_srt a t h.2⟩
    rcases List.mem_cons.1 ((insM_perm a t).mem_iff.1 hx) with rfl | hx
    ·omega
    ·exact h.1 x hx
theorem ordM_srt : ∀ L, Srt (ordM L)
 | [] => List.Pairwise.nil
 | a :: t => insM_srt a _ (ordM_srt t)
theorem insM_head (a : Int × Int) (L : List (Int × Int)) (h : ∀ b ∈ L, a.2 ≤ b.2) : insM a L = a :: L := by
 cases L with
 | nil => rfl
 | cons b t => rw [insM, if_pos (h b (List.mem_cons_self ..))]
theorem ordM_app : ∀ (A B : List (Int × Int)), ordM (A ++ B) = A.foldr insM (ordM B)
 | [], _ => rfl
 | a :: t, B => by rw [List.cons_append, ordM, ordM_app t B, List.foldr_cons]
theorem insM_comm {a b : Int × Int} (h : b.2 < a.2) : ∀ S, insM b (insM a S) = insM a (insM b S)
 | [] => by
   simp only [insM]
   rw [if_pos (by omega), if_neg (by omega)]
 | c :: t => by
   by_cases h1 : a.2 ≤ c.2
   ·have h2 : b.2 ≤ c.2 := by omega
    rw [insM, if_pos h1, insM, if_pos (by omega), insM, if_pos h2, insM, if_neg (by omega), insM, if_pos h1]
   ·by_cases h2 : b.2 ≤ c.2
    ·rw [insM, if_neg h1, insM, if_pos h2, insM, if_pos h2, insM, if_neg (by omega), insM, if_neg h1]
    ·rw [insM, if_neg h1, insM, if_neg h2, insM, if_neg h2, insM, if_neg h1, insM_comm h t]
theorem fold_ins (a : Int × Int) : ∀ (L S : List (Int × Int)), (insM a L).foldr insM S = insM a (L.foldr insM S)
 | [], S => rfl
 | b :: t, S => by
   by_cases h : a.2 ≤ b.2
   ·rw [show insM a (b :: t) = a :: b :: t from if_pos h]
    rfl
   ·rw [show insM a (b :: t) = b :: insM a t from if_neg h, List.foldr_cons, List.foldr_cons, fold_ins a t S]
    exact insM_comm (Int.not_le.1 h) _
theorem fold_ord : ∀ (L S : List (Int × Int)), (ordM L).foldr insM S = L.foldr insM S
 | [], _ => rfl
 | a :: t, S => by rw [ordM, fold_ins, fold_ord t S, List.foldr_cons]
theorem ordM_left (A B : List (Int × Int)) : ordM (ordM A ++ B) = ordM (A ++ B) := by rw [ordM_app, fold_ord, ← ordM_app]
section
variable (cl : Int → Int)
abbrev Marks (L : List (Int × Int)) : Prop := ∀ m ∈ L, cl m.1 = m.2 ∧ m.2 ≠ 0
theorem Marks.ord {L : List (Int × Int)} (h : Marks cl L) : Marks cl (ordM L) := fun m hm => h m ((ordM_perm L).mem_iff.1 hm)
def scanF : List Int → List (Int × Int) → List Int × List (Int × Int)
 | [], row => ([], row)
 | c :: t, row => if cl c = 0 then ((ordM row).map (·.1) ++ c :: (scanF t []).1, (scanF t []).2) else scanF t (row ++ [(c, cl c)])
theorem runF_perm : ∀ (v : List Int) (row : List (Int × Int)), (runF cl v row).Perm (row.map (·.1) ++ v)
 | [], row => by
   rw [runF, List.append_nil]
   exact (ordM_perm row).map _
 | c :: t, row => by
   unfold runF
   split
   ·exact ((ordM_perm row).map _).append ((runF_perm t []).cons c)
   ·refine (runF_perm t _).trans ?_
    rw [List.map_append, List.append_assoc]
    exact List.Perm.refl _
end
theorem sortF_perm (T : List Rec) (x : List Int) : (sortF T x).Perm x := runF_perm (numF T 2 (·.n)) x []
theorem sortF_length (T : List Rec) (x : List Int) : (sortF T x).length = x.length := (sortF_perm T x).length_eq
theorem sortF_range (T : List Rec) {x : List Int} (h : InI32 x) : InI32 (sortF T x) := fun z hz => h z ((sortF_perm T x).mem_iff.1 hz)
end Go.Proofs.YtnohcnneflogjaaGreat.M.St
namespace Go.Proofs.YtnohcnneflogjaaGreat.M.St
def insEnd (m : Int × Int) : List (Int × Int) → List (Int × Int)
 | [] => [m]
 | b :: t => if b.2 ≤ m.2 then b :: insEnd m t else m :: b :: t
theorem insEnd_mem {m b : Int × Int} : ∀ {S : List (Int × Int)}, b ∈ insEnd m S → b = m ∨ b ∈ S
 | [], h => Or.inl (List.mem_singleton.1 h)
 | a :: t, h => by
   unfold insEnd at h
   split at h
   ·rcases List.mem_cons.1 h with rfl | h
    ·exact Or.inr (List.mem_cons_self ..)
    ·rcases insEnd_mem h with h | h
     ·exact Or.inl h
     ·exact Or.inr (List.mem_cons_of_mem _ h)
   ·exact List.mem_cons.1 h
theorem insEnd_all {m : Int × Int} : ∀ S : List (Int × Int), (∀ b ∈ S, b.2 ≤ m.2) → insEnd m S = S ++ [m]
 | [], _ => rfl
 | a :: t, h => by rw [insEnd, if_pos (h a (List.mem_cons_self ..)), insEnd_all t (fun b hb => h b (List.mem_cons_of_mem _ hb))]; rfl
theorem insEnd_last {m a : Int × Int} (h : m.2 < a.2) : ∀ S : List (Int × Int), insEnd m (S ++ [a]) = insEnd m S ++ [a]
 | [] => by
   show insEnd m [a] = [m] ++ [a]
   show (if a.2 ≤ m.2 then a :: insEnd m [] else [m, a]) = [m] ++ [a]
   rw [if_neg (by omega)]
   rfl
 | b :: t => by
   rw [List.cons_append, insEnd, insEnd, insEnd_last h t]
   split <;> rfl
theorem ord_end : ∀ (S : List (Int × Int)) (m : Int × Int), Srt S → ordM (S ++ [m]) = insEnd m S
 | [], m, _ => rfl
 | a :: S, m, h => by
   rw [Srt, List.pairwise_cons] at h
   rw [List.cons_append, ordM, ord_end S m h.2, insEnd]
   by_cases hle : a.2 ≤ m.2
   ·rw [if_pos hle, insM_head]
    intro b hb
    rcases insEnd_mem hb with rfl | hb
    ·exact hle
    ·exact h.1 b hb
   ·have e : insEnd m S = m :: S := by
     cases S with
     | nil => rfl
     | cons b t =>
       have := h.1 b (List.mem_cons_self ..)
       rw [insEnd, if_neg (by omega)]
    rw [if_neg hle, e, insM, if_neg hle, insM_head a S h.1]
section
variable (cl : Int → Int)
def insR (c : Int) : List Int → List Int
 | [] => [c]
 | a :: r => if cl c ≠ 0 ∧ cl a > cl c then a :: insR c r else c :: a :: r
def docR : List Int → List Int → List Int
 | [], r => r
 | c :: t, r => docR t (insR cl c r)
theorem insR_zero {c : Int} (h : cl c = 0) : ∀ r, insR cl c r = c :: r
 | [] => rfl
 | a :: r => by rw [insR, if_neg (fun h' => h'.1 h)]
theorem insR_length (c : Int) : ∀ r, (insR cl c r).length = r.length + 1
 | [] => rfl
 | a :: r => by
   unfold insR
   split
   ·rw [List.length_cons, insR_length c r, List.length_cons]
   ·rfl
theorem insR_row (hp : ∀ z, 0 ≤ cl z) {c : Int} (hc : cl c ≠ 0) (r0 : List Int) (h0 : r0 = [] ∨ ∃ z t, r0 = z :: t ∧ cl z = 0) : ∀ (n : Nat) (S : List (Int × Int)), S.length = n → Srt S → Marks cl S →
 insR cl c ((S.map (·.1)).reverse ++ r0) = ((insEnd (c, cl c) S).map (·.1)).reverse ++ r0 := by
 intro n
 induction n with
 | zero =>
   intro S hS _ _
   have : S = [] := List.length_eq_zero_iff.1 hS
   subst this
   rcases h0 with rfl | ⟨z, t, rfl, hz⟩
   ·rfl
   ·show insR cl c (z :: t) = c :: z :: t
    have := hp c
    rw [insR, if_neg (fun h => by have := h.2; omega)]
 | succ n ih =>
   intro S hS hs hm
   rcases List.eq_nil_or_concat S with rfl | ⟨S', a, rfl⟩
   ·cases hS
   ·rw [List.concat_eq_append] at *
    have ha := hm a (by simp)
    have e : ((S' ++ [a]).map (·.1)).reverse ++ r0 = a.1 :: ((S'.map (·.1)).reverse ++ r0) := by simp
    have hs1 : Srt S' := (List.pairwise_append.1 hs).1
    have hs2 : ∀ b ∈ S', b.2 ≤ a.2 := fun b hb => (List.pairwise_append.1 hs).2.2 b hb a (by simp)
    rw [e, insR]
    by_cases hlt : cl c < a.2
    ·rw [if_pos ⟨hc, by rw [ha.1]; exact hlt⟩, ih S' (by simpa using hS) hs1 (fun m h => hm m (by simp [h])), insEnd_last hlt]
     simp
    ·rw [if_neg (fun h => hlt (by rw [← ha.1]; exact h.2)), insEnd_all _ (fun b hb => by
      rcases List.mem_append.1 hb with hb | hb
      ·have := hs2 b hb
       show b.2 ≤ cl c
       omega
      ·rw [List.mem_singleton] at hb
       subst hb
       exact Int.not_lt.1 hlt)]
     simp
theorem docR_run (hp : ∀ z, 0 ≤ cl z) : ∀ (x L : List Int) (row : List (Int × Int)), Marks cl row → (L.reverse = [] ∨ ∃ z t, L.reverse = z :: t ∧ cl z = 0) →
 (docR cl x (((ordM row).map (·.1)).reverse ++ L.reverse)).reverse = L ++ runF cl x row
 | [], L, row, _, _ => by simp [docR, runF]
 | c :: t, L, row, hm, hL => by
   rw [docR, runF]
   by_cases hc : cl c = 0
   ·rw [insR_zero cl hc, if_pos hc]
    have ih := docR_run hp t (L ++ (ordM row).map (·.1) ++ [c]) [] (fun m h => by cases h) (Or.inr ⟨c, ((ordM row).map (·.1)).reverse ++ L.reverse, by simp, hc⟩)
    have e : (((ordM []).map (·.1)).reverse : List Int) ++ (L ++ (ordM row).map (·.1) ++ [c]).reverse = c :: (((ordM row).map (·.1)).reverse ++ L.reverse) := by simp [ordM]
    rw [e] at ih
    rw [ih]
    simp
   ·rw [if_neg hc, insR_row cl hp hc _ hL _ (ordM row) rfl (ordM_srt row) (hm.ord cl), ← ord_end _ _ (ordM_srt row), ordM_left]
    exact docR_run hp t L _ (fun m h => by
     rcases List.mem_append.1 h with h | h
     ·exact hm m h
     ·rw [List.mem_singleton] at h
      subst h
      exact ⟨rfl, hc⟩) hL
theorem docR_sort (hp : ∀ z, 0 ≤ cl z) (x : List Int) : (docR cl x []).reverse = runF cl x [] := by
 have := docR_run cl hp x [] [] (fun m h => by cases h) (Or.inl rfl)
 simpa [ordM] using this
end
theorem hp_of {T : List Rec} (hG : Good T) : ∀ z, 0 ≤ numF T 2 (·.n) z := fun _ => (numF_range (fun x hx hf => right_n (hG.right x hx) (.inl hf))).1
end Go.Proofs.YtnohcnneflogjaaGreat.M.St
namespace Go.Proofs.YtnohcnneflogjaaGreat.M.Nm
open St
def cmpF (T : List Rec) : List Int → Option Int → List Int → List Int
 | [], st, tl => st.toList ++ tl
 | c :: t, none, tl => if classF T c = 0 then tl ++ cmpF T t (some c) [] else cmpF T t none (tl ++ [c])
 | c :: t, some s, tl =>
   if tl.all (fun z => decide (classF T z < classF T c)) = true ∧ (compF T s c).2 = true then cmpF T t (some (compF T s c).1) tl
   else if classF T c = 0 then s :: tl ++ cmpF T t (some c) [] else cmpF T t (some s) (tl ++ [c])
def composeF (T : List Rec) (x : List Int) : List Int := cmpF T x none []
def nfdF (T : List Rec) (x : List Int) : List Int := sortF T (openX T x)
def nfcF (T : List Rec) (x : List Int) : List Int := composeF T (nfdF T x)
section
variable (cl : Int → Int)
end
def againF (T : List Rec) (c : Int) : Bool := match openF T c with
 | [a, b] => (compF T a b).2 && decide ((compF T a b).1 = c)
 | _ => false
def badF (T : List Rec) (c : Int) : Bool := !(openF T c == []) && !againF T c
theorem shut_bad {T : List Rec} {c : Int} (h : openF T c = []) : badF T c = false := by unfold badF; rw [h]; rfl
theorem cmp_len (T : List Rec) : ∀ (t : List Int) (st : Option Int) (tl : List Int), (cmpF T t st tl).length ≤ st.toList.length + tl.length + t.length ∧ st.toList.length + tl.length ≤ (cmpF T t st tl).length
 | [], st, tl => by rw [cmpF, List.length_append]; simp
 | c :: t, none, tl => by
   rw [cmpF]
   split
   ·have := cmp_len T t (some c) []
    simp only [List.length_append, Option.toList, List.length_cons, List.length_nil] at *
    omega
   ·have := cmp_len T t none (tl ++ [c])
    simp only [List.length_append, Option.toList, List.length_cons, List.length_nil] at *
    omega
 | c :: t, some s, tl => by
   rw [cmpF]
   split
   ·have := cmp_len T t (some (compF T s c).1) tl
    simp only [List.length_append, Option.toList, List.length_cons, List.length_nil] at *
    omega
   ·split
    ·have := cmp_len T t (some c) []
     simp only [List.length_append, Option.toList, List.length_cons, List.length_nil] at *
     omega
    ·have := cmp_len T t (some s) (tl ++ [c])
     simp only [List.length_append, Option.toList, List.length_cons, List.length_nil] at *
     omega
def safeF (T : List Rec) (c : Int) : Bool := decide (classF T c = 0) && !badF T c && !secondF T (rd (fullL T c) 0)
end Go.Proofs.YtnohcnneflogjaaGreat.M.Nm
namespace Go.Proofs.YtnohcnneflogjaaGreat.M.Nm
open St
def chainF (T : List Rec) (s : Int) : List Int → Option Int
 | [] => some s
 | b :: B => if (compF T s b).2 = true then chainF T (compF T s b).1 B else none
section
variable {T : List Rec}
def calmF (T : List Rec) (c : Int) : Bool := !badF T c && !secondF T (rd (fullL T c) 0)
def noPair (T : List Rec) : List Int → Prop
 | [] => True
 | [_] => True
 | a :: b :: t => (classF T a = 0 → (compF T a b).2 = false) ∧ noPair T (b :: t)
end
end Go.Proofs.YtnohcnneflogjaaGreat.M.Nm
namespace Go.Proofs.YtnohcnneflogjaaGreat.M.St
open Go.Shelf Go.RowKit Go.Lib Go.Sort
theorem wf_i32 {n : Int} (h : (Lit.int .i32 n).wf = true) : -2147483648 ≤ n ∧ n ≤ 2147483647 := by
 simp [Lit.wf, IntKind.min, IntKind.max, IntKind.signed, IntKind.bits] at h
 omega
def RetI (l : List Int) (w : World) (e : Ending) (w' : World) : Prop := ∃ A c, e = .returned (.tuple #[.slice A l.length c, .int .i64 0]) ∧ w'.ownsRow w.heap.size 21 1 (.slice A l.length c) l.length (l.map (Value.int .i32)) ∧ Ints .i32 w' A l ∧ Up w w'
theorem RetRow0.ints {l : List Int} {w : World} {e : Ending} {w' : World} (h : RetRow0 l w e w') : RetI l w e w' := by
 obtain ⟨v, rfl, hown, hup⟩ := h
 obtain ⟨A, c, rfl, hi, _⟩ := own_ints hown
 exact ⟨A, c, rfl, hown, hi, hup⟩
section
variable {H : Nat} {w : World} {bd : Nat} {D : DataV} {T : List Rec}
theorem NFD_i (hD : DataAt H w bd D T) (hF : Fine T) (hW : ∀ x ∈ T, x.Wf) (A : Option Addr) (c : Nat) (x : List Int) (n : Nat) (hn : x.length = n) (hI : Ints .i32 w A x) (hr : InI32 x) (hx : x.length ≤ 65536) (ys : List Int) (hys : sortF T (openX T x) = ys) :
 Calls Tryz.prog 24 #[.pointer (some ⟨bd, 0, none⟩), .slice A n c] w (RetI ys w) := by
 subst hn
 exact (NFD_calls hD hF hW A c x hI hr hx ys hys).mono (fun e w' h => h.ints)
theorem Sorted_i (hD : DataAt H w bd D T) (hG : Good T) (A : Option Addr) (c : Nat) (x : List Int) (n : Nat) (hn : x.length = n) (hI : Ints .i32 w A x) (hr : InI32 x) (hx : x.length ≤ 100000000) (b : Bool) (hb : sortedG (numF T 2 (·.n)) 0 x = b) :
 Calls Tryz.prog 35 #[.pointer (some ⟨bd, 0, none⟩), .slice A n c] w fun e w' => e = .returned (.bool b) ∧ Up w w' := by
 subst hn
 exact Sorted_calls hD hG A c x hI hr hx b hb
end
def tx : List Int := [224, 98]
def ty : List Int := [97, 768, 98]
theorem littleT_f : Fine littleT := fine_of littleT_wf littleT_fine
end Go.Proofs.YtnohcnneflogjaaGreat.M.St
