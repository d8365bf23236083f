/- What chapter 13's laws share: ranges, told. -/
import Derived.Test.YtnohcnneflogjaaGreatPNorm3
import Derived.Test.YtnohcnneflogjaaGreatPFew13
set_option maxHeartbeats 8000000
set_option maxRecDepth 1000000
set_option linter.unusedVariables false
set_option linter.unusedSimpArgs false
namespace Go.Proofs.YtnohcnneflogjaaGreat.M.Nm
open Go.Shelf Go.RowKit Go.Lib Go.Sort St
theorem cmp_all {T : List Rec} {Q : Int → Prop} (hQ : ∀ a b p, compF T a b = (p, true) → Q p) : ∀ (t : List Int) (st : Option Int) (tl : List Int), (∀ z ∈ t, Q z) → (∀ z ∈ tl, Q z) → (∀ s, st = some s → Q s) → ∀ z ∈ cmpF T t st tl, Q z
 | [], st, tl, _, htl, hs => by
   intro z hz
   rw [cmpF] at hz
   rcases List.mem_append.1 hz with hz | hz
   ·exact hs z (by simpa using hz)
   ·exact htl z hz
 | c :: t, none, tl, ht, htl, hs => by
   intro z hz
   have hc := ht c (List.mem_cons_self ..)
   have ht' : ∀ z ∈ t, Q z := fun z hz => ht z (List.mem_cons_of_mem _ hz)
   rw [cmpF] at hz
   split at hz
   ·rcases List.mem_append.1 hz with hz | hz
    ·exact htl z hz
    ·exact cmp_all hQ t (some c) [] ht' (fun z hz => by cases hz) (fun s h => by cases h; exact hc) z hz
   ·exact cmp_all hQ t none (tl ++ [c]) ht' (fun z hz => by
     rcases List.mem_append.1 hz with hz | hz
     ·exact htl z hz
     ·rw [List.mem_singleton.1 hz]; exact hc) (fun s h => by cases h) z hz
 | c :: t, some s, tl, ht, htl, hs => by
   intro z hz
   have hc := ht c (List.mem_cons_self ..)
   have ht' : ∀ z ∈ t, Q z := fun z hz => ht z (List.mem_cons_of_mem _ hz)
   rw [cmpF] at hz
   split at hz
   ·rename_i h
    exact cmp_all hQ t _ tl ht' htl (fun s' h' => by cases h'; exact hQ _ _ _ (comp_eta h.2)) z hz
   ·split at hz
    ·rcases List.mem_append.1 hz with hz | hz
     ·rcases List.mem_cons.1 hz with rfl | hz
      ·exact hs _ rfl
      ·exact htl z hz
     ·exact cmp_all hQ t (some c) [] ht' (fun z hz => by cases hz) (fun s h => by cases h; exact hc) z hz
    ·exact cmp_all hQ t (some s) (tl ++ [c]) ht' (fun z hz => by
      rcases List.mem_append.1 hz with hz | hz
      ·exact htl z hz
      ·rw [List.mem_singleton.1 hz]; exact hc) hs z hz
theorem nfd_range {T : List Rec} (hF : Fine T) {x : List Int} (h : InI32 x) : InI32 (nfdF T x) := sortF_range T (openX_range hF hF.wf h)
theorem nfc_range {T : List Rec} (hF : Fine T) {x : List Int} (h : InI32 x) : InI32 (nfcF T x) :=
 cmp_all (Q := fun z => -2147483648 ≤ z ∧ z ≤ 2147483647) (fun a b p hp => comp_range hF hp) _ none [] (nfd_range hF h) (fun z hz => by cases hz) (fun s h => by cases h)
theorem nfd_len {T : List Rec} (hF : Fine T) (x : List Int) : (nfdF T x).length ≤ 32 * x.length := by unfold nfdF; rw [sortF_length]; exact openX_len hF x
def t13x : List Int := [97, 768, 4352, 4449]
def t13y : List Int := [224, 44032]
theorem t13x_range : InI32 t13x := by unfold InI32; decide
theorem t13_nfc : nfcF littleT t13x = t13y := by decide +kernel
theorem t13_q : quickF littleT [768] = 1 := by decide +kernel
theorem t13_safe : safeF littleT 97 = true := by decide +kernel
theorem t13_not : safeF littleT 768 = false := by decide +kernel
theorem t13x_ints (w0 : World) : Ints .i32 (w0.alloc (.cells #[.int .i32 97, .int .i32 768, .int .i32 4352, .int .i32 4449] 21)) (some ⟨w0.heap.size, 0, none⟩) t13x := ints_new w0 t13x
theorem t13q_ints (w0 : World) : Ints .i32 (w0.alloc (.cells #[.int .i32 768] 21)) (some ⟨w0.heap.size, 0, none⟩) [768] := ints_new w0 [768]
theorem t13y_ints (w0 : World) : Ints .i32 (w0.alloc (.cells #[.int .i32 224, .int .i32 44032] 21)) (some ⟨w0.heap.size, 0, none⟩) t13y := ints_new w0 t13y
theorem told13_calls (w : World) : Calls Tryz.prog 41 #[] w fun e w' => e = .returned (.bool true) ∧ Up w w' := by
 go_enter Tryz.func41, Tryz.ntmps41
 go_wp2_with (first | (go_at_call 29; (with_reducible refine (Little_calls _).mono ?_); rintro e w1 ⟨A1, n1, rfl, hT1, hup⟩; have HT1 := Az.mk hT1; have HU1 := Az.mk hup; clear hT1 hup) | (go_at_call 21; (with_reducible refine (Made_fine A1 n1 littleT 10 _ HT1.out.table littleT_wf HT1.out.len rfl (by decide) littleT_fine).mono ?_); rintro e w2 ⟨bd, D, A2, n2, rfl, hD, _, hup⟩; have HD := Az.mk hD; have HU2 := Az.mk (up_trans HU1.out hup); clear hD hup) |
  (go_at_call 45; (with_reducible refine (Safe_calls (HD.out.up HV7.out) littleT_f 768 (by decide) false t13_not).mono ?_); rintro e w8 ⟨rfl, hup⟩; have HV8 := Az.mk (up_trans HV7.out hup); clear hup) |
  (go_at_call 45; (with_reducible refine (Safe_calls (HD.out.up HV6.out) littleT_f 97 (by decide) true t13_safe).mono ?_); rintro e w7 ⟨rfl, hup⟩; have HV7 := Az.mk (up_trans HV6.out hup); clear hup) |
  (go_at_call 26; (with_reducible refine (SameN_calls A3 _ t13y.length 2 c3 2 t13y t13y _ (HI3.out.up (up_trans HQ5.out (up_alloc (up_refl w5) _))) (t13y_ints w5) rfl rfl (by decide) (by decide) true (by decide)).mono ?_); rintro e w6 ⟨rfl, hup⟩; have HV6 := Az.mk (up_trans HV5.out (up_trans (up_alloc (up_refl w5) _) hup)); clear hup) |
  (go_at_call 44; (with_reducible refine (NFC_nil _ _ _ _).mono ?_); rintro e w5 ⟨rfl, hup⟩; have HQ5 := Az.mk (up_trans HQ4.out hup); have HV5 := Az.mk (up_trans HV4.out hup); clear hup) |
  (go_at_call 43; (with_reducible refine (Quick_calls (HD.out.up (up_trans HV3.out (up_alloc (up_refl w3) _))) littleT_f _ 1 [768] 1 rfl (t13q_ints w3) (by unfold InI32; decide) (by decide) 1 t13_q).mono ?_); rintro e w4 ⟨rfl, hup⟩; have HQ4 := Az.mk (up_trans (up_alloc (up_refl w3) _) hup); have HV4 := Az.mk (up_trans HV3.out HQ4.out); clear hup) |
  (go_at_call 44; (with_reducible refine (NFC_calls (HD.out.up (up_alloc (up_refl w2) _)) littleT_f _ 4 t13x 4 rfl (t13x_ints w2) t13x_range (by decide) t13y t13_nfc).mono ?_); rintro e w3 ⟨A3, c3, rfl, _, hi, hup⟩; have HI3 := Az.mk hi; have HV3 := Az.mk (up_trans (up_alloc (up_refl w2) _) hup); clear hi hup))
 go_ret
 exact ⟨rfl, up_trans HU2.out HV8.out⟩
end Go.Proofs.YtnohcnneflogjaaGreat.M.Nm
