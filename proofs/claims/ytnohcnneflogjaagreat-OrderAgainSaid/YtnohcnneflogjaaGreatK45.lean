/- The document's chapter 12, walked: Open, Sort, Sorted, NFD, Same. -/
import Derived.Test.YtnohcnneflogjaaGreatK43
import Derived.Test.YtnohcnneflogjaaGreatK44
import Derived.Test.YtnohcnneflogjaaGreatK38
import Derived.Test.YtnohcnneflogjaaGreatK46
set_option linter.unusedVariables false
set_option linter.unusedSimpArgs false
namespace Go.Proofs.YtnohcnneflogjaaGreat.M.St
open Go.Shelf Go.RowKit Go.Lib Go.Sort
set_option maxHeartbeats 8000000
set_option maxRecDepth 1000000
structure TabAt (w : World) (A : Option Addr) (T : List Rec) : Prop where
 tab : Table w A T
 fine : Fine T
theorem TabAt.up {w w' : World} {A : Option Addr} {T : List Rec} (h : TabAt w A T) (hu : Up w w') : TabAt w' A T := ⟨h.tab.up hu, h.fine⟩
section
variable {w : World} {At : Option Addr} {T : List Rec}
theorem TabAt.Class (h : TabAt w At T) (ct : Nat) (d n : Int) (hn : numF T 2 (·.n) d = n) (h1 : -2147483648 ≤ d ∧ d ≤ 2147483647) :
 Calls Tryz.prog 82 #[.slice At T.length ct, .int .i32 d] w fun e w' => e = .returned (.int .i64 n) ∧ Up w w' :=
 TClass_calls At ct T d w h.tab h.fine.right h.fine.wf h.fine.len h1.1 h1.2 n hn
theorem TabAt.Full (h : TabAt w At T) (ct : Nat) (d : Int) (l : List Int) (hl : fullL T d = l) (h1 : -2147483648 ≤ d ∧ d ≤ 2147483647) :
 Calls Tryz.prog 30 #[.slice At T.length ct, .int .i32 d] w (RetRow l w) :=
 TFull_calls At ct T d w h.tab h.fine.right h.fine.wf h.fine.len h1.1 h1.2 h.fine l hl
theorem ROpen12_calls (hT : TabAt w At T) (ct : Nat) (A : Option Addr) (c : Nat) (x : List Int) (hI : Ints .i32 w A x) (hr : InI32 x) (hx : x.length ≤ 100000) (ys : List Int) (hys : openX T x = ys) :
 Calls Tryz.prog 32 #[.slice At T.length ct, .slice A x.length c] w (RetRow ys w) := by
 obtain ⟨ie, ze, hie, hze, hsi, hby, hzc⟩ := i32_info
 have HT := Aside0.mk hT
 have HX := Aside0.mk hI
 have HR := Aside0.mk hr
 have HYS := Aside0.mk hys
 clear hT hI hr hys
 go_enter Tryz.func32, Tryz.ntmps32
 go_wp2
 go_loopg [5, 6] x.length (fun k v5 v6 wr => ∃ (i : Nat) (q : List Int) (Aq : Option Addr) (cq : Nat), v6 = .int .i64 i ∧ v5 = .slice Aq q.length cq ∧ Aside0 (i + k = x.length) ∧ Aside0 (openX T (x.take i) = q) ∧ Aside0 (wr.ownsRow w.heap.size 21 1 (.slice Aq q.length cq) q.length (q.map (Value.int .i32))) ∧ Aside0 (Up w wr))
 case atStart => exact ⟨0, [], none, 0, rfl, rfl, ⟨Nat.zero_add _⟩, ⟨by simp [openX]⟩, ⟨World.ownsRow_nil _ _ _ _⟩, ⟨up_refl _⟩⟩
 case round =>
  obtain ⟨i, q, Aq, cq, rfl, rfl, HI, HQ, HO, HU⟩ := hrel
  cases gk with
  | zero =>
    have hlt : decide ((i : Int) < (x.length : Int)) = false := decide_eq_false (by have := HI.out; omega)
    have hlt1 : ¬ (i < x.length) := by have := HI.out; omega
    go_wp2
    go_ret
    have e := HQ.out
    rw [List.take_of_length_le (by omega), HYS.out] at e
    subst e
    exact ⟨_, rfl, HO.out, HU.out⟩
  | succ k =>
    have hi : i < x.length := by have := HI.out; omega
    have hlt : decide ((i : Int) < (x.length : Int)) = true := decide_eq_true (by omega)
    have z1 : (i : Int) < (x.length : Int) := by omega
    obtain ⟨ad, hA, y1⟩ := HX.out.at_ i (by omega) z1
    have y2 := up_cell HU.out y1
    rw [Int.toNat_natCast] at y2
    subst hA
    clear y1
    obtain ⟨d, hd⟩ : ∃ d, x[i] = d := ⟨_, rfl⟩
    rw [rd_elem x i hi, hd] at y2
    have HR1 : Aside0 (-2147483648 ≤ d ∧ d ≤ 2147483647) := ⟨HR.out d (by rw [← hd]; exact List.getElem_mem _)⟩
    obtain ⟨l, hl⟩ : ∃ l, fullL T d = l := ⟨_, rfl⟩
    have HLL : Aside0 (l.length ≤ 32) := ⟨by rw [← hl]; exact full_len HT.out.fine d⟩
    have HQL : Aside0 (q.length ≤ 32 * x.length) := ⟨by
     rw [← HQ.out]
     refine Nat.le_trans (openX_len HT.out.fine _) ?_
     rw [List.length_take]
     omega⟩
    have HNX : Aside0 (openX T (x.take (i + 1)) = q ++ l) := ⟨by rw [openX_take T x hi, HQ.out, hd, hl]⟩
    have HFC := Aside0.mk ((HT.out.up HU.out).Full ct d l hl HR1.out)
    have HMX : Aside0 (q.length + l.length ≤ maxLen ∧ (q.length + l.length) * 4 ≤ 140737488355328) := ⟨by
     have h1 := HLL.out
     have h2 := HQL.out
     refine ⟨?_, by omega⟩
     show q.length + l.length ≤ 9223372036854775807
     omega⟩
    clear hd hl
    go_wp2_with (first | (go_at_call 30; (with_reducible refine HFC.out.mono ?_); rintro e w1 ⟨v1, rfl, hown1, hup1⟩; obtain ⟨A1, c1, hv1, hi1, _⟩ := own_ints hown1; subst hv1; have HU2 := Aside0.mk hup1; have HI1 := Aside0.mk hi1; clear hown1 hup1 hi1) |
     (at_builtin; refine (wpList_append_row _ rfl _ _ 23 rfl w.heap.size 21 ie ze 1 4 Tryz.underlying23 hie hze hsi hby hzc (by decide) _ q.length (q.map (Value.int .i32)) rfl (own_up HO.out HU2.out) A1 l.length c1 (l.map (Value.int .i32)) rfl (by simp) HI1.out (ints_one _ _) ?ha ?hb ?hc ?_); (case ha => exact HMX.out.1); (case hb => exact HMX.out.2); (case hc => exact (up_trans HU.out HU2.out).size); intro v' w3 hown' hgrow hat'; have HO3 : Aside0 (w3.ownsRow w.heap.size 21 1 v' (q ++ l).length ((q ++ l).map (Value.int .i32))) := ⟨by rw [List.length_append, List.map_append]; exact hown'⟩; obtain ⟨A3, c3, hv3⟩ := own_any HO3.out; subst hv3; have HG3 := Aside0.mk hgrow; clear hown' hgrow hat'))
    go_roundg k
    case measure => omega
    case rel =>
     have hup : Up w w3 := by
      have h1 := up_trans HU.out HU2.out
      exact Below.grown h1 HG3.out h1.size (fun k hk => (HO.out.lt k hk).1)
     exact ⟨i + 1, q ++ l, A3, c3, by go_num, by rw [List.length_append], ⟨by have := HI.out; omega⟩, HNX, HO3, ⟨hup⟩⟩
theorem docR_take (cl : Int → Int) : ∀ (u r : List Int) (c : Int), docR cl (u ++ [c]) r = insR cl c (docR cl u r)
 | [], r, c => rfl
 | a :: u, r, c => by rw [List.cons_append, docR, docR, docR_take cl u]
theorem docR_len (cl : Int → Int) : ∀ (u r : List Int), (docR cl u r).length = u.length + r.length
 | [], r => by simp [docR]
 | a :: u, r => by rw [docR, docR_len cl u, insR_length]; simp; omega
theorem swap_set (P R : List Int) (a c : Int) : ((P ++ a :: c :: R).set (P.length + 1) a).set P.length c = P ++ c :: a :: R := by
 rw [List.set_append_right _ _ (by omega), List.set_append_right _ _ (by omega)]
 simp
theorem inI32_set {L : List Int} (h : InI32 L) {q : Nat} {z : Int} (hz : -2147483648 ≤ z ∧ z ≤ 2147483647) : InI32 (L.set q z) := fun y hy => by
 rcases List.mem_or_eq_of_mem_set hy with h' | rfl
 ·exact h y h'
 ·exact hz
theorem rd_mid (P R : List Int) (a : Int) : rd (P ++ a :: R) (P.length : Nat) = a := by
 rw [rd_get _ _ (by simp), List.getElem_append_right (by omega)]
 simp
structure Mid (cl : Int → Int) (L : List Int) (k : Nat) (c : Int) (N R : List Int) (P B : List Int) : Prop where
 l : L = P ++ c :: (B ++ R)
 k : P.length = k
 n : (insR cl c P.reverse).reverse ++ B = N
theorem Mid.done {cl : Int → Int} {L : List Int} {k : Nat} {c : Int} {N R P B : List Int} (h : Mid cl L k c N R P B) (hs : k = 0 ∨ cl c = 0 ∨ ¬ cl (rd L ((k - 1 : Nat) : Int)) > cl c) : L = N ++ R := by
 have key : insR cl c P.reverse = c :: P.reverse := by
  rcases List.eq_nil_or_concat P with rfl | ⟨P', a, rfl⟩
  ·rfl
  ·rw [List.concat_eq_append] at *
   rw [List.reverse_append, List.reverse_singleton, List.singleton_append, insR, if_neg]
   rintro ⟨h1, h2⟩
   have hk := h.k
   simp at hk
   rcases hs with hs | hs | hs
   ·omega
   ·exact h1 hs
   ·apply hs
    have e : rd L ((k - 1 : Nat) : Int) = a := by
     rw [h.l, List.append_assoc, List.singleton_append, show k - 1 = P'.length by omega]
     exact rd_mid _ _ _
    rw [e]
    exact h2
 have hn := h.n
 rw [key, List.reverse_cons, List.reverse_reverse] at hn
 rw [h.l, ← hn]
 simp
theorem Mid.step {cl : Int → Int} {L : List Int} {k : Nat} {c : Int} {N R P B : List Int} (h : Mid cl L (k + 1) c N R P B) (h1 : cl c ≠ 0) (h2 : cl (rd L (k : Int)) > cl c) :
 ∃ P' B', Mid cl ((L.set (k + 1) (rd L (k : Int))).set k c) k c N R P' B' := by
 rcases List.eq_nil_or_concat P with rfl | ⟨P', a, rfl⟩
 ·have := h.k
  cases this
 ·rw [List.concat_eq_append] at *
  have hk := h.k
  simp at hk
  subst hk
  have hl : L = P' ++ a :: c :: (B ++ R) := by rw [h.l]; simp
  have e : rd L ((P'.length : Nat) : Int) = a := by rw [hl]; exact rd_mid _ _ _
  rw [e] at h2
  refine ⟨P', a :: B, ?_, rfl, ?_⟩
  ·rw [e, hl, swap_set]
   rfl
  ·have hn := h.n
   rw [List.reverse_append, List.reverse_singleton, List.singleton_append, insR, if_pos ⟨h1, h2⟩] at hn
   rw [← hn]
   simp
theorem Mid.at {cl : Int → Int} {L : List Int} {k : Nat} {c : Int} {N R P B : List Int} (h : Mid cl L k c N R P B) : rd L (k : Int) = c := by
 rw [h.l, ← h.k]
 exact rd_mid _ _ _
theorem Mid.len {cl : Int → Int} {L : List Int} {k : Nat} {c : Int} {N R P B : List Int} (h : Mid cl L k c N R P B) : k < L.length := by
 rw [h.l, ← h.k]
 simp
theorem RSort12_calls (hT : TabAt w At T) (ct : Nat) (A : Option Addr) (c : Nat) (x : List Int) (hI : Ints .i32 w A x) (hr : InI32 x) (hx : x.length ≤ 100000000) (ys : List Int) (hys : sortF T x = ys) :
 Calls Tryz.prog 33 #[.slice At T.length ct, .slice A x.length c] w (RetRow ys w) := by
 obtain ⟨ie, ze, hie, hze, hsi, hby, hzc⟩ := i32_info
 obtain ⟨cl, hcl⟩ : ∃ cl, numF T 2 (·.n) = cl := ⟨_, rfl⟩
 have HCL := Aside0.mk hcl
 have HP : Aside0 (∀ z, 0 ≤ cl z) := ⟨by rw [← hcl]; exact hp_of hT.fine.toGood⟩
 have HYS : Aside0 ((docR cl x []).reverse = ys) := ⟨by rw [docR_sort cl HP.out, ← hcl]; exact hys⟩
 have HT := Aside0.mk hT
 have HX := Aside0.mk hI
 have HR := Aside0.mk hr
 have HLEN : Aside0 (0 + x.length ≤ maxLen ∧ (0 + x.length) * 4 ≤ 140737488355328) := ⟨by unfold maxLen; omega⟩
 have HXL := Aside0.mk hx
 clear hT hI hr hys hx hcl
 go_enter Tryz.func33, Tryz.ntmps33
 go_wp2_with (first | (at_builtin; refine (wpList_append_row _ rfl _ _ 23 rfl w.heap.size 21 ie ze 1 4 Tryz.underlying23 hie hze hsi hby hzc (by decide) _ 0 [] rfl (World.ownsRow_nil _ _ _ _) A x.length c (x.map (Value.int .i32)) rfl (by simp) HX.out (ints_one _ _) ?hb ?hc ?hd ?_); (case hb => exact HLEN.out.1); (case hc => exact HLEN.out.2); (case hd => exact Nat.le_refl _); intro v' w3 hown' hgrow hat'; rw [Nat.zero_add, List.nil_append] at hown'; obtain ⟨A3, c3, hv⟩ := own_any hown'; subst hv; have HO3 := Aside0.mk hown'; have HU3 := Aside0.mk (up_nil hgrow rfl); clear hown' hgrow hat'))
 obtain ⟨n, hn⟩ : ∃ n, x.length = n := ⟨_, rfl⟩
 have HN := Aside0.mk hn
 rw [hn] at HO3 ⊢
 clear hn
 go_loopg [6, 7, 8] (n - 1) (fun k v6 v7 v8 wr => ∃ (i : Nat) (L : List Int), v6 = .int .i64 i ∧ Aside0 (1 ≤ i ∧ i + k = n - 1 + 1 ∧ L.length = n) ∧ Aside0 (L = (docR cl (x.take i) []).reverse ++ x.drop i) ∧ Aside0 (InI32 L) ∧ Aside0 (wr.ownsRow w.heap.size 21 1 (.slice A3 n c3) n (L.map (Value.int .i32))) ∧ Aside0 (Up w wr))
 case atStart =>
  refine ⟨1, x, rfl, ⟨Nat.le_refl _, by omega, HN.out⟩, ⟨?_⟩, HR, HO3, HU3⟩
  cases x with
  | nil => rfl
  | cons a t => rfl
 case round =>
  obtain ⟨i, L, rfl, HI, HL, HRL, HO, HU⟩ := hrel
  cases gk with
  | zero =>
    have hlt : decide ((i : Int) < (n : Int)) = false := decide_eq_false (by have := HI.out; omega)
    have hlt1 : ¬ (i < n) := by have := HI.out; omega
    have e : L = ys := by
     have := HN.out
     rw [HL.out, List.take_of_length_le (by omega), List.drop_eq_nil_of_le (by omega), List.append_nil]
     exact HYS.out
    go_wp2
    go_ret
    subst e
    refine ⟨_, rfl, ?_, HU.out⟩
    rw [HI.out.2.2]
    exact HO.out
  | succ k =>
    have hi : i < n := by have := HI.out; omega
    have hlt : decide ((i : Int) < (n : Int)) = true := decide_eq_true (by omega)
    have z1 : (i : Int) < (n : Int) := by omega
    have hix : i < x.length := by rw [HN.out]; exact hi
    obtain ⟨d, hd⟩ : ∃ d, x[i] = d := ⟨_, rfl⟩
    obtain ⟨N, hN⟩ : ∃ N, (docR cl (x.take (i + 1)) []).reverse = N := ⟨_, rfl⟩
    have HNN := Aside0.mk hN
    have hM : Mid cl L i d N (x.drop (i + 1)) (docR cl (x.take i) []).reverse [] := by
     refine ⟨?_, ?_, ?_⟩
     ·rw [HL.out, List.drop_eq_getElem_cons hix, hd]
      rfl
     ·rw [List.length_reverse, docR_len, List.length_take]
      simp
      omega
     ·rw [List.reverse_reverse, List.append_nil, ← hN, List.take_succ_eq_append_getElem hix, docR_take, hd]
    have HM := Aside0.mk hM
    have HDR : Aside0 (-2147483648 ≤ d ∧ d ≤ 2147483647) := ⟨HR.out d (by rw [← hd]; exact List.getElem_mem _)⟩
    obtain ⟨e, he⟩ : ∃ e, cl d = e := ⟨_, rfl⟩
    have HE := Aside0.mk he
    have HCN : Aside0 (∀ W, Up w W → Calls Tryz.prog 82 #[.slice At T.length ct, .int .i32 d] W fun e' w' => e' = .returned (.int .i64 e) ∧ Up W w') := ⟨fun W hW => (HT.out.up hW).Class ct d e (by rw [HCL.out]; exact HE.out) HDR.out⟩
    have HI0 : Aside0 (i < n ∧ 1 ≤ i ∧ i + (k + 1) = n - 1 + 1) := ⟨hi, HI.out.1, HI.out.2.1⟩
    clear hN hM hd he hix
    go_wp2
    go_loopg [7, 8] i (fun k v7 v8 wr => ∃ (L : List Int) (P B : List Int), v7 = .int .i64 k ∧ Aside0 (L.length = n) ∧ Aside0 (Mid cl L k d N (x.drop (i + 1)) P B) ∧ Aside0 (InI32 L) ∧ Aside0 (wr.ownsRow w.heap.size 21 1 (.slice A3 n c3) n (L.map (Value.int .i32))) ∧ Aside0 (Up w wr))
    case atStart => exact ⟨L, _, _, rfl, ⟨HI.out.2.2⟩, HM, HRL, HO, HU⟩
    case round =>
     obtain ⟨L2, P, B, rfl, HL2, HM2, HRL2, HO2, HU2⟩ := hrel
     clear HL HRL HO HU HM HI HO3 HU3 hlt hi z1
     have HK0 : Aside0 (i < n ∧ 1 ≤ i ∧ i + (k + 1) = n - 1 + 1) := ⟨HI0.out⟩
     have next : ∀ W, W.ownsRow w.heap.size 21 1 (.slice A3 n c3) n ((N ++ x.drop (i + 1)).map (Value.int .i32)) → Up w W → InI32 (N ++ x.drop (i + 1)) → (N ++ x.drop (i + 1)).length = n → ∃ (i' : Nat) (L' : List Int), Value.int .i64 ((i : Int) + 1) = .int .i64 i' ∧ Aside0 (1 ≤ i' ∧ i' + k = n - 1 + 1 ∧ L'.length = n) ∧ Aside0 (L' = (docR cl (x.take i') []).reverse ++ x.drop i') ∧ Aside0 (InI32 L') ∧ Aside0 (W.ownsRow w.heap.size 21 1 (.slice A3 n c3) n (L'.map (Value.int .i32))) ∧ Aside0 (Up w W) :=
      fun W h1 h2 h3 h4 => ⟨i + 1, _, rfl, ⟨by omega, by have := HK0.out; omega, h4⟩, ⟨by rw [HNN.out]⟩, ⟨h3⟩, ⟨h1⟩, ⟨h2⟩⟩
     have hni : (i : Int) < 100000000 := by have := HXL.out; have := HN.out; have := HK0.out; omega
     have NX := Aside0.mk next
     clear next
     cases gk with
     | zero =>
       have e := HM2.out.done (.inl rfl)
       subst e
       go_wp2
       go_quiet (fail)
       go_wp2
       go_roundg k
       case measure => omega
       case rel => exact NX.out _ (own_up HO2.out (up_drewN (up_refl _) _)) (up_drewN HU2.out _) HRL2.out HL2.out
     | succ k2 =>
       have HLT := HM2.out.len
       rw [HL2.out] at HLT
       obtain ⟨g, rfl, hge⟩ := own_some HO2.out (by omega)
       obtain ⟨q, hq⟩ : ∃ q, k2 + 1 = q := ⟨_, rfl⟩
       have HQ := Aside0.mk hq
       have hlt2 : k2 < n := by omega
       rw [hq] at HLT
       obtain ⟨y1, yf1⟩ := own_at HO2.out HLT
       obtain ⟨y2, yf2⟩ := own_at HO2.out hlt2
       have hrd := HM2.out.at
       rw [hq] at hrd ⊢
       obtain ⟨a, ha⟩ : ∃ a, rd L2 (k2 : Int) = a := ⟨_, rfl⟩
       have HA := Aside0.mk ha
       rw [hrd] at y1
       rw [ha] at y2
       have HAR : Aside0 (-2147483648 ≤ a ∧ a ≤ 2147483647) := ⟨by rw [← ha, rd_get L2 k2 (by rw [HL2.out]; exact hlt2)]; exact HRL2.out _ (List.getElem_mem _)⟩
       obtain ⟨b, hb⟩ : ∃ b, cl a = b := ⟨_, rfl⟩
       have HB := Aside0.mk hb
       have HCA : Aside0 (∀ W, Up w W → Calls Tryz.prog 82 #[.slice At T.length ct, .int .i32 a] W fun e' w' => e' = .returned (.int .i64 b) ∧ Up W w') := ⟨fun W hW => (HT.out.up hW).Class ct a b (by rw [HCL.out]; exact HB.out) HAR.out⟩
       have q0 : decide ((q : Int) > 0) = true := decide_eq_true (by omega)
       have q00 : decide (0 < q) = true := decide_eq_true (by omega)
       have hql : (q : Int) < 100000000 := by have := HXL.out; have := HN.out; omega
       have hw1 : wrap64 ((q : Int) - 1) = (k2 : Int) := by unfold wrap64; omega
       have hw2 : IntKind.i64.wrap ((q : Int) - 1) = (k2 : Int) := by rw [IntKind.wrap_i64]; omega
       have m1 : 0 ≤ (k2 : Int) := by omega
       have m2 : (k2 : Int) < (n : Int) := by omega
       have m3 : 0 ≤ (q : Int) := by omega
       have m4 : (q : Int) < (n : Int) := by omega
       have hs0 : wr.drew.cell? ⟨g, q, none⟩ = some (.int .i32 d) ∧ wr.drew.cell? ⟨g, k2, none⟩ = some (.int .i32 a) := ⟨y1, y2⟩
       have HY1 := Aside0.mk y1
       have HY2 := Aside0.mk y2
       have HGE := Aside0.mk hge
       have HLQ := Aside0.mk HLT
       have HL22 := Aside0.mk hlt2
       have HRD := Aside0.mk hrd
       clear hq hrd ha hb HLT hlt2 hge
       by_cases he0 : e = 0
       ·have e0 : (e == 0) = true := beq_iff_eq.mpr he0
        have e1 : (e != 0) = false := by rw [bne, e0]; rfl
        have ee := HM2.out.done (.inr (.inl (by rw [HE.out]; exact he0)))
        subst ee
        clear he0
        go_wp2
        refine wp_region_held_drew (S := (fun w' => w'.cell? ⟨g, q, none⟩ = some (.int .i32 d) ∧ w'.cell? ⟨g, k2, none⟩ = some (.int .i32 a))) (by kernel_rfl) hs0 (fun hHeld => ?_)
        refine takeR 0 ?_
        (try simp only [Act.put, List.setIfInBounds_toArray, List.set_cons_zero, List.set_cons_succ, List.getElem_toArray, List.getElem_cons_zero, List.getElem_cons_succ])
        refine takeR 1 ?_
        (try simp only [Act.put, List.setIfInBounds_toArray, List.set_cons_zero, List.set_cons_succ, List.getElem_toArray, List.getElem_cons_zero, List.getElem_cons_succ])
        refine takeR 2 ?_
        (try simp only [Act.put, List.setIfInBounds_toArray, List.set_cons_zero, List.set_cons_succ, List.getElem_toArray, List.getElem_cons_zero, List.getElem_cons_succ])
        refine takeR 3 ?_
        (try simp only [Act.put, List.setIfInBounds_toArray, List.set_cons_zero, List.set_cons_succ, List.getElem_toArray, List.getElem_cons_zero, List.getElem_cons_succ])
        refine takeR 4 ?_
        (try simp only [Act.put, List.setIfInBounds_toArray, List.set_cons_zero, List.set_cons_succ, List.getElem_toArray, List.getElem_cons_zero, List.getElem_cons_succ])
        refine takeR 5 ?_
        (try simp only [Act.put, List.setIfInBounds_toArray, List.set_cons_zero, List.set_cons_succ, List.getElem_toArray, List.getElem_cons_zero, List.getElem_cons_succ])
        refine takeR 6 ?_
        (try simp only [Act.put, List.setIfInBounds_toArray, List.set_cons_zero, List.set_cons_succ, List.getElem_toArray, List.getElem_cons_zero, List.getElem_cons_succ])
        refine takeR 7 ?_
        (try simp only [Act.put, List.setIfInBounds_toArray, List.set_cons_zero, List.set_cons_succ, List.getElem_toArray, List.getElem_cons_zero, List.getElem_cons_succ])
        refine wpAnyH_ready (rs := [8]) (by kernel_rfl) (by simp) ?_
        refine AllReadyH.cons rfl (fun K hK => ?_) AllReadyH.nil
        go_simp
        (go_at_call 82; (with_reducible refine (HCN.out _ (up_drew HU2.out)).mono ?_); rintro e' w1 ⟨rfl, hup1⟩; have HC1 := Aside0.mk (up_trans (up_drew HU2.out) hup1); have HD1 := Aside0.mk (up_trans (up_drew (up_refl wr)) hup1); have hs1 : w1.cell? ⟨g, q, none⟩ = some (.int .i32 d) ∧ w1.cell? ⟨g, k2, none⟩ = some (.int .i32 a) := ⟨up_cell HD1.out HY1.out, up_cell HD1.out HY2.out⟩; clear hup1)
        refine hK.out _ _ hs1 (fun hHeld => ?_)
        clear hK K
        (try simp only [Act.put, List.setIfInBounds_toArray, List.set_cons_zero, List.set_cons_succ, List.getElem_toArray, List.getElem_cons_zero, List.getElem_cons_succ])
        refine takeR 9 ?_
        (try simp only [Act.put, List.setIfInBounds_toArray, List.set_cons_zero, List.set_cons_succ, List.getElem_toArray, List.getElem_cons_zero, List.getElem_cons_succ])
        refine takeR 10 ?_
        (try simp only [Act.put, List.setIfInBounds_toArray, List.set_cons_zero, List.set_cons_succ, List.getElem_toArray, List.getElem_cons_zero, List.getElem_cons_succ])
        refine takeR 11 ?_
        (try simp only [Act.put, List.setIfInBounds_toArray, List.set_cons_zero, List.set_cons_succ, List.getElem_toArray, List.getElem_cons_zero, List.getElem_cons_succ])
        refine takeS 12 ?_
        (try simp only [Act.put, List.setIfInBounds_toArray, List.set_cons_zero, List.set_cons_succ, List.getElem_toArray, List.getElem_cons_zero, List.getElem_cons_succ])
        refine takeS 13 ?_
        (try simp only [Act.put, List.setIfInBounds_toArray, List.set_cons_zero, List.set_cons_succ, List.getElem_toArray, List.getElem_cons_zero, List.getElem_cons_succ])
        refine takeS 14 ?_
        (try simp only [Act.put, List.setIfInBounds_toArray, List.set_cons_zero, List.set_cons_succ, List.getElem_toArray, List.getElem_cons_zero, List.getElem_cons_succ])
        refine takeS 15 ?_
        (try simp only [Act.put, List.setIfInBounds_toArray, List.set_cons_zero, List.set_cons_succ, List.getElem_toArray, List.getElem_cons_zero, List.getElem_cons_succ])
        refine takeS 16 ?_
        (try simp only [Act.put, List.setIfInBounds_toArray, List.set_cons_zero, List.set_cons_succ, List.getElem_toArray, List.getElem_cons_zero, List.getElem_cons_succ])
        refine takeS 17 ?_
        (try simp only [Act.put, List.setIfInBounds_toArray, List.set_cons_zero, List.set_cons_succ, List.getElem_toArray, List.getElem_cons_zero, List.getElem_cons_succ])
        refine takeS 18 ?_
        (try simp only [Act.put, List.setIfInBounds_toArray, List.set_cons_zero, List.set_cons_succ, List.getElem_toArray, List.getElem_cons_zero, List.getElem_cons_succ])
        refine takeS 19 ?_
        (try simp only [Act.put, List.setIfInBounds_toArray, List.set_cons_zero, List.set_cons_succ, List.getElem_toArray, List.getElem_cons_zero, List.getElem_cons_succ])
        refine takeS 20 ?_
        (try simp only [Act.put, List.setIfInBounds_toArray, List.set_cons_zero, List.set_cons_succ, List.getElem_toArray, List.getElem_cons_zero, List.getElem_cons_succ])
        refine takeS 21 ?_
        (try simp only [Act.put, List.setIfInBounds_toArray, List.set_cons_zero, List.set_cons_succ, List.getElem_toArray, List.getElem_cons_zero, List.getElem_cons_succ])
        refine takeS 22 ?_
        (try simp only [Act.put, List.setIfInBounds_toArray, List.set_cons_zero, List.set_cons_succ, List.getElem_toArray, List.getElem_cons_zero, List.getElem_cons_succ])
        refine takeS 23 ?_
        (try simp only [Act.put, List.setIfInBounds_toArray, List.set_cons_zero, List.set_cons_succ, List.getElem_toArray, List.getElem_cons_zero, List.getElem_cons_succ])
        refine takeS 24 ?_
        (try simp only [Act.put, List.setIfInBounds_toArray, List.set_cons_zero, List.set_cons_succ, List.getElem_toArray, List.getElem_cons_zero, List.getElem_cons_succ])
        refine takeS 25 ?_
        (try simp only [Act.put, List.setIfInBounds_toArray, List.set_cons_zero, List.set_cons_succ, List.getElem_toArray, List.getElem_cons_zero, List.getElem_cons_succ])
        refine takeR 26 ?_
        (try simp only [Act.put, List.setIfInBounds_toArray, List.set_cons_zero, List.set_cons_succ, List.getElem_toArray, List.getElem_cons_zero, List.getElem_cons_succ])
        refine wpAnyH_done (by kernel_rfl) ?_ _
        go_wp2
        go_roundg k
        case measure => omega
        case rel => exact NX.out _ (own_up HO2.out HD1.out) HC1.out HRL2.out HL2.out
       ·have e0 : (e == 0) = false := beq_eq_false_iff_ne.mpr he0
        have e1 : (e != 0) = true := bne_iff_ne.mpr he0
        by_cases hgt : b > e
        ·have g1 : decide (b > e) = true := decide_eq_true hgt
         have g2 : decide (e < b) = true := decide_eq_true hgt
         have HST : Aside0 (∃ P' B', Mid cl ((L2.set q a).set k2 d) k2 d N (x.drop (i + 1)) P' B') := ⟨by
          rw [← HQ.out, ← HA.out]
          exact HM2.out.step (by rw [HE.out]; exact he0) (by rw [HA.out, HB.out, HE.out]; exact hgt)⟩
         clear he0 hgt
         go_wp2
         go_region_held3 (fun w' => w'.cell? ⟨g, q, none⟩ = some (.int .i32 d) ∧ w'.cell? ⟨g, k2, none⟩ = some (.int .i32 a)) (first | exact hs0 | exact hs1 | exact hs2 | exact hs3) (first | (go_at_call 82; (with_reducible refine (HCN.out _ HC2.out).mono ?_); rintro e' w5 ⟨rfl, hup5⟩; have HC3 := Aside0.mk (up_trans HC2.out hup5); have HD3 := Aside0.mk (up_trans HD2.out hup5); have hs3 : w5.cell? ⟨g, q, none⟩ = some (.int .i32 d) ∧ w5.cell? ⟨g, k2, none⟩ = some (.int .i32 a) := ⟨up_cell HD3.out HY1.out, up_cell HD3.out HY2.out⟩; clear hup5) | (go_at_call 82; (with_reducible refine (HCA.out _ HC1.out).mono ?_); rintro e' w4 ⟨rfl, hup4⟩; have HC2 := Aside0.mk (up_trans HC1.out hup4); have HD2 := Aside0.mk (up_trans HD1.out hup4); have hs2 : w4.cell? ⟨g, q, none⟩ = some (.int .i32 d) ∧ w4.cell? ⟨g, k2, none⟩ = some (.int .i32 a) := ⟨up_cell HD2.out HY1.out, up_cell HD2.out HY2.out⟩; clear hup4) | (go_at_call 82; (with_reducible refine (HCN.out _ (up_drew HU2.out)).mono ?_); rintro e' w1 ⟨rfl, hup1⟩; have HC1 := Aside0.mk (up_trans (up_drew HU2.out) hup1); have HD1 := Aside0.mk (up_trans (up_drew (up_refl wr)) hup1); have hs1 : w1.cell? ⟨g, q, none⟩ = some (.int .i32 d) ∧ w1.cell? ⟨g, k2, none⟩ = some (.int .i32 a) := ⟨up_cell HD1.out HY1.out, up_cell HD1.out HY2.out⟩; clear hup1))
         have HO5 := Aside0.mk (own_up HO2.out HD3.out)
         have z1 : w5.cell? ⟨g, q, none⟩ = some (.int .i32 d) := hs3.1
         have z2 : w5.cell? ⟨g, k2, none⟩ = some (.int .i32 a) := hs3.2
         have z3 := (own_at HO5.out HLQ.out).2
         have z4 := (own_at HO5.out HL22.out).2
         have HP5 := Aside0.mk (own_put (own_put HO5.out q a) k2 d)
         have HU5 : Aside0 (Up w ((w5.setCell ⟨g, q, none⟩ (.int .i32 a)).setCell ⟨g, k2, none⟩ (.int .i32 d))) := ⟨(HC3.out.setCell HGE.out _).setCell HGE.out _⟩
         have hne : q ≠ k2 := by have := HQ.out; omega
         have hne2 : k2 ≠ q := by have := HQ.out; omega
         clear y1 y2 yf1 yf2 hs0 hs1 hs2 hs3 q0 q00
         go_wp2
         go_roundg k2
         case measure => omega
         case rel =>
          obtain ⟨P', B', hm⟩ := HST.out
          exact ⟨_, P', B', rfl, ⟨by simp [HL2.out]⟩, ⟨hm⟩, ⟨inI32_set (inI32_set HRL2.out HAR.out) HDR.out⟩, HP5, HU5⟩
        ·have g1 : decide (b > e) = false := decide_eq_false hgt
         have g2 : decide (e < b) = false := decide_eq_false hgt
         have ee := HM2.out.done (.inr (.inr (by rw [show k2 + 1 - 1 = k2 by omega, HA.out, HB.out, HE.out]; exact hgt)))
         subst ee
         clear he0 hgt
         go_wp2
         go_region_held3 (fun w' => w'.cell? ⟨g, q, none⟩ = some (.int .i32 d) ∧ w'.cell? ⟨g, k2, none⟩ = some (.int .i32 a)) (first | exact hs0 | exact hs1 | exact hs2 | exact hs3) (first | (go_at_call 82; (with_reducible refine (HCN.out _ HC2.out).mono ?_); rintro e' w5 ⟨rfl, hup5⟩; have HC3 := Aside0.mk (up_trans HC2.out hup5); have HD3 := Aside0.mk (up_trans HD2.out hup5); have hs3 : w5.cell? ⟨g, q, none⟩ = some (.int .i32 d) ∧ w5.cell? ⟨g, k2, none⟩ = some (.int .i32 a) := ⟨up_cell HD3.out HY1.out, up_cell HD3.out HY2.out⟩; clear hup5) | (go_at_call 82; (with_reducible refine (HCA.out _ HC1.out).mono ?_); rintro e' w4 ⟨rfl, hup4⟩; have HC2 := Aside0.mk (up_trans HC1.out hup4); have HD2 := Aside0.mk (up_trans HD1.out hup4); have hs2 : w4.cell? ⟨g, q, none⟩ = some (.int .i32 d) ∧ w4.cell? ⟨g, k2, none⟩ = some (.int .i32 a) := ⟨up_cell HD2.out HY1.out, up_cell HD2.out HY2.out⟩; clear hup4) | (go_at_call 82; (with_reducible refine (HCN.out _ (up_drew HU2.out)).mono ?_); rintro e' w1 ⟨rfl, hup1⟩; have HC1 := Aside0.mk (up_trans (up_drew HU2.out) hup1); have HD1 := Aside0.mk (up_trans (up_drew (up_refl wr)) hup1); have hs1 : w1.cell? ⟨g, q, none⟩ = some (.int .i32 d) ∧ w1.cell? ⟨g, k2, none⟩ = some (.int .i32 a) := ⟨up_cell HD1.out HY1.out, up_cell HD1.out HY2.out⟩; clear hup1))
         go_wp2
         go_roundg k
         case measure => omega
         case rel => exact NX.out _ (own_up HO2.out HD3.out) HC3.out HRL2.out HL2.out
theorem RNFD12_calls (hT : TabAt w At T) (ct : Nat) (A : Option Addr) (c : Nat) (x : List Int) (hI : Ints .i32 w A x) (hr : InI32 x) (hx : x.length ≤ 100000) (ys : List Int) (hys : sortF T (openX T x) = ys) :
 Calls Tryz.prog 34 #[.slice At T.length ct, .slice A x.length c] w (RetRow ys w) := by
 obtain ⟨q, hq⟩ : ∃ q, openX T x = q := ⟨_, rfl⟩
 have HQ := Aside0.mk hq
 have HQR : Aside0 (InI32 q) := ⟨by rw [← hq]; exact openX_range hT.fine hT.fine.wf hr⟩
 have HQL : Aside0 (q.length ≤ 100000000) := ⟨by rw [← hq]; have := openX_len hT.fine x; omega⟩
 rw [hq] at hys
 have HYS := Aside0.mk hys
 have HO := Aside0.mk (ROpen12_calls hT ct A c x hI hr hx q hq)
 have HT := Aside0.mk hT
 clear hT hI hr hx hq hys
 go_enter Tryz.func34, Tryz.ntmps34
 go_wp2_with (first | (go_at_call 32; (with_reducible refine HO.out.mono ?_); rintro e w1 ⟨v1, rfl, hown1, hup1⟩; obtain ⟨A1, c1, hv1, hi1, _⟩ := own_ints hown1; subst hv1; have HU1 := Aside0.mk hup1; have HI1 := Aside0.mk hi1; clear hown1 hup1 hi1) |
  (go_at_call 33; (with_reducible refine (RSort12_calls (HT.out.up HU1.out) ct A1 c1 q HI1.out HQR.out HQL.out ys HYS.out).mono ?_); rintro e w2 ⟨v2, rfl, hown2, hup2⟩))
 go_ret
 exact ⟨_, rfl, own_base hown2 HU1.out.size, up_trans HU1.out hup2⟩
theorem RSame12_calls (hT : TabAt w At T) (ct : Nat) (A B : Option Addr) (c k : Nat) (x y : List Int) (hI : Ints .i32 w A x) (hJ : Ints .i32 w B y) (hr : InI32 x) (hs : InI32 y) (hx : x.length ≤ 100000) (hy : y.length ≤ 100000) (b : Bool) (hb : (sortF T (openX T x) == sortF T (openX T y)) = b) :
 Calls Tryz.prog 40 #[.slice At T.length ct, .slice A x.length c, .slice B y.length k] w fun e w' => e = .returned (.bool b) ∧ Up w w' := by
 obtain ⟨p, hp⟩ : ∃ p, sortF T (openX T x) = p := ⟨_, rfl⟩
 obtain ⟨q, hq⟩ : ∃ q, sortF T (openX T y) = q := ⟨_, rfl⟩
 have HQ := Aside0.mk hq
 have HPL : Aside0 (p.length ≤ 35184372087808) := ⟨by rw [← hp, sortF_length]; have := openX_len hT.fine x; omega⟩
 have HQL : Aside0 (q.length ≤ 35184372087808) := ⟨by rw [← hq, sortF_length]; have := openX_len hT.fine y; omega⟩
 have HN := Aside0.mk (RNFD12_calls hT ct A c x hI hr hx p hp)
 rw [hp, hq] at hb
 have HB := Aside0.mk hb
 have HT := Aside0.mk hT
 have HJ := Aside0.mk hJ
 have HS := Aside0.mk hs
 have HY := Aside0.mk hy
 clear hT hI hr hx hp hq hJ hs hy hb
 go_enter Tryz.func40, Tryz.ntmps40
 go_wp2_with (first | (go_at_call 26; (with_reducible refine (SameB_calls A1 A2 c1 c2 p q _ (HI1.out.up HR2.out) HI2.out HPL.out HQL.out b HB.out).mono ?_); rintro e w3 ⟨rfl, hup3⟩) |
  (go_at_call 34; (with_reducible refine (RNFD12_calls (HT.out.up HU1.out) ct B k y (HJ.out.up HU1.out) HS.out HY.out q HQ.out).mono ?_); rintro e w2 ⟨v2, rfl, hown2, hup2⟩; obtain ⟨A2, c2, hv2, hi2, _⟩ := own_ints hown2; subst hv2; have HR2 := Aside0.mk hup2; have HU2 := Aside0.mk (up_trans HU1.out hup2); have HI2 := Aside0.mk hi2; clear hown2 hup2 hi2) |
  (go_at_call 34; (with_reducible refine HN.out.mono ?_); rintro e w1 ⟨v1, rfl, hown1, hup1⟩; obtain ⟨A1, c1, hv1, hi1, _⟩ := own_ints hown1; subst hv1; have HU1 := Aside0.mk hup1; have HI1 := Aside0.mk hi1; clear hown1 hup1 hi1))
 go_ret
 exact ⟨rfl, up_trans HU2.out hup3⟩
theorem RSorted12_calls (hT : TabAt w At T) (ct : Nat) (A : Option Addr) (c : Nat) (x : List Int) (hI : Ints .i32 w A x) (hr : InI32 x) (hx : x.length ≤ 100000000) (b : Bool) (hb : sortedG (numF T 2 (·.n)) 0 x = b) :
 Calls Tryz.prog 36 #[.slice At T.length ct, .slice A x.length c] w fun e w' => e = .returned (.bool b) ∧ Up w w' := by
 obtain ⟨cl, hcl⟩ : ∃ cl, numF T 2 (·.n) = cl := ⟨_, rfl⟩
 have HCL := Aside0.mk hcl
 have HP : Aside0 (∀ z, 0 ≤ cl z) := ⟨by rw [← hcl]; exact hp_of hT.fine.toGood⟩
 have HB : Aside0 (sortedG cl 0 x = b) := ⟨by rw [← hcl]; exact hb⟩
 have HT := Aside0.mk hT
 have HX := Aside0.mk hI
 have HR := Aside0.mk hr
 have HXL := Aside0.mk hx
 obtain ⟨n, hn⟩ : ∃ n, x.length = n := ⟨_, rfl⟩
 have HN := Aside0.mk hn
 rw [hn]
 clear hT hI hr hb hx hcl hn
 go_enter Tryz.func36, Tryz.ntmps36
 go_wp2
 go_loopg [5, 6] (n - 1) (fun k v5 v6 wr => ∃ (i : Nat), v5 = .int .i64 i ∧ Aside0 (1 ≤ i ∧ i + k = n - 1 + 1) ∧ Aside0 (sortedG cl (cl (rd x ((i - 1 : Nat) : Int))) (x.drop i) = b) ∧ Aside0 (Up w wr))
 case atStart =>
  refine ⟨1, rfl, ⟨Nat.le_refl _, by omega⟩, ⟨?_⟩, ⟨up_refl _⟩⟩
  rw [← HB.out]
  cases x with
  | nil => rfl
  | cons a t =>
    show sortedG cl (cl a) t = sortedG cl 0 (a :: t)
    rw [sortedG, if_neg (fun h => by have := h.2; have := HP.out a; omega)]
 case round =>
  obtain ⟨i, rfl, HI, HS, HU⟩ := hrel
  cases gk with
  | zero =>
    have hlt : decide ((i : Int) < (n : Int)) = false := decide_eq_false (by have := HI.out; omega)
    have hlt1 : ¬ (i < n) := by have := HI.out; omega
    go_wp2
    go_ret
    have e := HS.out
    rw [List.drop_eq_nil_of_le (by have := HN.out; omega)] at e
    exact ⟨by rw [← e]; rfl, HU.out⟩
  | succ k =>
    have hi : i < n := by have := HI.out; omega
    have hlt : decide ((i : Int) < (n : Int)) = true := decide_eq_true (by omega)
    have z1 : (i : Int) < (n : Int) := by omega
    have hix : i < x.length := by rw [HN.out]; exact hi
    obtain ⟨ad, hA, y1⟩ := HX.out.at_ i (by omega) (by omega)
    obtain ⟨ad', hA', y1'⟩ := HX.out.at_ ((i - 1 : Nat) : Int) (by omega) (by omega)
    rw [hA] at hA'
    cases hA'
    rw [Int.toNat_natCast] at y1 y1'
    have y2 := up_cell HU.out y1
    have y3 := up_cell HU.out y1'
    subst hA
    obtain ⟨d, hd⟩ : ∃ d, rd x (i : Int) = d := ⟨_, rfl⟩
    obtain ⟨a, ha⟩ : ∃ a, rd x ((i - 1 : Nat) : Int) = a := ⟨_, rfl⟩
    obtain ⟨j, hj⟩ : ∃ j, i - 1 = j := ⟨_, rfl⟩
    have HA := Aside0.mk ha
    have HDR : Aside0 (-2147483648 ≤ d ∧ d ≤ 2147483647) := ⟨by rw [← hd]; exact HR.out.rd i hix⟩
    have HAR : Aside0 (-2147483648 ≤ a ∧ a ≤ 2147483647) := ⟨by rw [← ha]; exact HR.out.rd (i - 1) (by omega)⟩
    rw [hd] at y2
    rw [ha, hj] at y3
    have hw1 : wrap64 ((i : Int) - 1) = (j : Int) := by have := HXL.out; have := HN.out; have := HI.out; unfold wrap64; omega
    have hw2 : IntKind.i64.wrap ((i : Int) - 1) = (j : Int) := by have := HXL.out; have := HN.out; have := HI.out; rw [IntKind.wrap_i64]; omega
    have m1 : 0 ≤ (j : Int) := by omega
    have m2 : (j : Int) < (n : Int) := by omega
    have hni : (i : Int) < 100000000 := by have := HXL.out; have := HN.out; omega
    obtain ⟨e, he⟩ : ∃ e, cl d = e := ⟨_, rfl⟩
    obtain ⟨b', hb'⟩ : ∃ b', cl a = b' := ⟨_, rfl⟩
    have HE := Aside0.mk he
    have HB' := Aside0.mk hb'
    have HDRP : Aside0 (x.drop i = d :: x.drop (i + 1)) := ⟨by rw [List.drop_eq_getElem_cons hix, ← hd, rd_elem x i hix]⟩
    have HRD := Aside0.mk hd
    have HCN : Aside0 (∀ W, Up w W → Calls Tryz.prog 82 #[.slice At T.length ct, .int .i32 d] W fun e' w' => e' = .returned (.int .i64 e) ∧ Up W w') := ⟨fun W hW => (HT.out.up hW).Class ct d e (by rw [HCL.out]; exact HE.out) HDR.out⟩
    have HCA : Aside0 (∀ W, Up w W → Calls Tryz.prog 82 #[.slice At T.length ct, .int .i32 a] W fun e' w' => e' = .returned (.int .i64 b') ∧ Up W w') := ⟨fun W hW => (HT.out.up hW).Class ct a b' (by rw [HCL.out]; exact HB'.out) HAR.out⟩
    have NX : Aside0 (∀ W, ¬ (e ≠ 0 ∧ b' > e) → Up w W → ∃ i' : Nat, Value.int .i64 ((i : Int) + 1) = .int .i64 i' ∧ Aside0 (1 ≤ i' ∧ i' + k = n - 1 + 1) ∧ Aside0 (sortedG cl (cl (rd x ((i' - 1 : Nat) : Int))) (x.drop i') = b) ∧ Aside0 (Up w W)) := ⟨fun W h1 h2 => ⟨i + 1, rfl, ⟨by omega, by have := HI.out; omega⟩, ⟨by
     have e1 := HS.out
     rw [HDRP.out, sortedG, HA.out, HB'.out, HE.out, if_neg h1] at e1
     rw [Nat.add_sub_cancel, HRD.out, HE.out]
     exact e1⟩, ⟨h2⟩⟩⟩
    have YES : Aside0 (e ≠ 0 → b' > e → false = b) := ⟨fun h1 h2 => by
     have e1 := HS.out
     rw [HDRP.out, sortedG, HA.out, HB'.out, HE.out, if_pos ⟨h1, h2⟩] at e1
     exact e1⟩
    have HY3 := Aside0.mk y3
    clear hd ha hj he hb' y1 y1' hix
    by_cases he0 : e = 0
    ·have e0 : (e == 0) = true := beq_iff_eq.mpr he0
     have e1 : (e != 0) = false := by rw [bne, e0]; rfl
     have HE0 := Aside0.mk he0
     clear he0
     go_wp2_with (first | (go_at_call 82; (with_reducible refine (HCN.out _ HU.out).mono ?_); rintro e' w1 ⟨rfl, hup1⟩; have HC1 := Aside0.mk (up_trans HU.out hup1); have y4 := up_cell hup1 HY3.out; clear hup1))
     go_roundg k
     case measure => omega
     case rel => exact NX.out _ (fun h => h.1 HE0.out) HC1.out
    ·have e0 : (e == 0) = false := beq_eq_false_iff_ne.mpr he0
     have e1 : (e != 0) = true := bne_iff_ne.mpr he0
     have HE0 := Aside0.mk he0
     clear he0
     by_cases hgt : b' > e
     ·have g1 : decide (b' > e) = true := decide_eq_true hgt
      have hbb := Aside0.mk (YES.out HE0.out hgt)
      clear hgt
      go_wp2_with (first | (go_at_call 82; (with_reducible refine (HCA.out _ HC1.out).mono ?_); rintro e' w4 ⟨rfl, hup4⟩; have HC2 := Aside0.mk (up_trans HC1.out hup4); clear hup4) | (go_at_call 82; (with_reducible refine (HCN.out _ HU.out).mono ?_); rintro e' w1 ⟨rfl, hup1⟩; have HC1 := Aside0.mk (up_trans HU.out hup1); have y4 := up_cell hup1 HY3.out; clear hup1))
      go_ret
      exact ⟨congrArg (fun z => Ending.returned (.bool z)) hbb.out, HC2.out⟩
     ·have g1 : decide (b' > e) = false := decide_eq_false hgt
      have g2 : decide (e < b') = false := decide_eq_false hgt
      have HGT := Aside0.mk hgt
      clear hgt
      go_wp2_with (first | (go_at_call 82; (with_reducible refine (HCA.out _ HC1.out).mono ?_); rintro e' w4 ⟨rfl, hup4⟩; have HC2 := Aside0.mk (up_trans HC1.out hup4); clear hup4) | (go_at_call 82; (with_reducible refine (HCN.out _ HU.out).mono ?_); rintro e' w1 ⟨rfl, hup1⟩; have HC1 := Aside0.mk (up_trans HU.out hup1); have y4 := up_cell hup1 HY3.out; clear hup1))
      go_roundg k
      case measure => omega
      case rel => exact NX.out _ (fun h => absurd h.2 (by have := HGT.out; omega)) HC2.out
end
end Go.Proofs.YtnohcnneflogjaaGreat.M.St
namespace Go.Proofs.YtnohcnneflogjaaGreat.M.St
open Go.Shelf Go.RowKit Go.Lib Go.Sort
set_option maxHeartbeats 8000000
set_option maxRecDepth 1000000
theorem whole12_calls (A B : Option Addr) (c k : Nat) (s : List Int) (n : Nat) (hn : s.length = n) (w : World) (hI : Ints .i32 w A (s ++ [-7, -8])) (hc : n + 2 ≤ c) (hJ : Ints .i32 w B s) (hk : n ≤ k) (hl : n ≤ 100000) :
 Calls Tryz.prog 37 #[.slice A n c, .slice B n k] w fun e w' => e = .returned (.bool true) ∧ Up w w' := by
 obtain ⟨ad, hA, y1⟩ := hI.at_ (n : Int) (by omega) (by rw [List.length_append]; simp; omega)
 obtain ⟨ad', hA', y2⟩ := hI.at_ ((n + 1 : Nat) : Int) (by omega) (by rw [List.length_append]; simp; omega)
 rw [hA] at hA'
 cases hA'
 rw [Int.toNat_natCast] at y1 y2
 have e1 : rd (s ++ [-7, -8]) (n : Int) = -7 := by subst hn; rw [rd_get _ _ (by simp), List.getElem_append_right (by omega)]; simp
 have e2 : rd (s ++ [-7, -8]) ((n + 1 : Nat) : Int) = -8 := by subst hn; rw [rd_get _ _ (by simp), List.getElem_append_right (by omega)]; simp
 rw [e1] at y1
 rw [e2] at y2
 have HI : Aside0 (Ints .i32 w A s) := ⟨by
  have := ints_take12 hI n
  rwa [List.take_left' hn] at this⟩
 have HJ := Aside0.mk hJ
 have HY1 := Aside0.mk y1
 have HY2 := Aside0.mk y2
 have HSB : Aside0 (s.length ≤ 35184372087808) := ⟨by omega⟩
 have HSS : Aside0 ((s == s) = true) := ⟨by simp⟩
 have HN := Aside0.mk hn
 have a1 : 0 ≤ (n : Int) := by omega
 have a2 : (n : Int) ≤ (k : Int) := by omega
 have a3 : (n : Int) + 2 ≤ (c : Int) := by omega
 have a4 : (n : Int) < (n : Int) + 2 := by omega
 have a5 : 0 ≤ (n : Int) + 1 := by omega
 have a6 : (n : Int) + 1 < (n : Int) + 2 := by omega
 have a7 : 0 ≤ (n : Int) + 2 := by omega
 have b1 : IntKind.i64.wrap ((n : Int) + 2) = (n : Int) + 2 := by rw [IntKind.wrap_i64]; omega
 have b2 : IntKind.i64.wrap ((n : Int) + 1) = (n : Int) + 1 := by rw [IntKind.wrap_i64]; omega
 have hnn : (n : Int) ≤ 100000 := by omega
 subst hA
 clear hI hJ e1 e2 y1 y2 hn hl
 go_enter Tryz.func37, Tryz.ntmps37
 go_wp2_with (first | (go_at_call 26; (with_reducible refine (SameN_calls _ B n n c k s s _ HI.out HJ.out HN.out HN.out (by have := HSB.out; have := HN.out; omega) (by have := HSB.out; have := HN.out; omega) true HSS.out).mono ?_); rintro e w1 ⟨rfl, hup⟩; have HU := Aside0.mk hup; have y1 := up_cell hup HY1.out; have y2 := up_cell hup HY2.out; have y3 : w1.cell? ⟨ad.block, ad.off + (n + 1), none⟩ = some (.int .i32 (-8)) := y2; clear hup))
 go_ret
 exact ⟨rfl, HU.out⟩
end Go.Proofs.YtnohcnneflogjaaGreat.M.St
