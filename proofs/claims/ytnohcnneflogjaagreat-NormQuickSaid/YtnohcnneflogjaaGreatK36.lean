/- What is asked of a compiled table, walked: what a trie tells. -/
import Derived.Test.YtnohcnneflogjaaGreatK35
set_option maxHeartbeats 16000000
set_option maxRecDepth 100000
set_option linter.unusedVariables false
set_option linter.unusedSimpArgs false
namespace Go.Proofs.YtnohcnneflogjaaGreat.M
open Go.RowKit
theorem findR_out {T : List Rec} {f c : Int} (h : c < 0 ∨ 1114111 < c) : findR T f c = none := by
 unfold findR
 rw [List.find?_eq_none]
 intro x _ hx
 unfold hitB speaksB at hx
 simp only [Bool.and_eq_true, decide_eq_true_eq] at hx
 omega
theorem numF_out {T : List Rec} {f : Int} {g : Rec → Int} {c : Int} (h : c < 0 ∨ 1114111 < c) : numF T f g c = 0 := by
 unfold numF
 rw [findR_out h]
theorem numF_range {T : List Rec} {f : Int} {g : Rec → Int} {c : Int} (h : ∀ x ∈ T, fam x.kind = f → 0 ≤ g x ∧ g x ≤ 65535) : 0 ≤ numF T f g c ∧ numF T f g c ≤ 65535 := by
 unfold numF
 cases hf : findR T f c with
 | none => show (0 : Int) ≤ 0 ∧ (0 : Int) ≤ 65535; decide
 | some x =>
   obtain ⟨h1, h2⟩ := findR_some hf
   refine h x h1 ?_
   unfold hitB at h2
   simp only [Bool.and_eq_true, decide_eq_true_eq] at h2
   exact h2.1
theorem right_n {x : Rec} (hR : Right x) (hk : fam x.kind = 2 ∨ fam x.kind = 4 ∨ fam x.kind = 5) : 0 ≤ x.n ∧ x.n ≤ 65535 := by
 have h := hR.kind
 have hf := hR.fits
 unfold fitsB at hf
 have hq : x.kind = 6 ∨ x.kind = 9 ∨ x.kind = 10 := by
  generalize x.kind = q at h hk
  rcases fam_cases h.1 h.2 with rfl | rfl | rfl | rfl | rfl | rfl | rfl | rfl | rfl | rfl | rfl | rfl | rfl | rfl | rfl <;> first | omega | (exfalso; revert hk; decide)
 rcases hq with hq | hq | hq <;> simp [hq] at hf <;> omega
theorem statF_range {T : List Rec} (c : Int) : 0 ≤ statF T c ∧ statF T c ≤ 65535 := by
 unfold statF
 cases findR T 1 c with
 | none => exact ⟨Int.le_refl _, by decide⟩
 | some x =>
   have := statN_le x.kind
   show 0 ≤ statN x.kind ∧ statN x.kind ≤ 65535
   omega
theorem statF_out {T : List Rec} {c : Int} (h : c < 0 ∨ 1114111 < c) : statF T c = 0 := by
 unfold statF
 rw [findR_out h]
theorem apart_val {L : List Rng} (hA : Apart L) (c : Int) : 0 ≤ valR L 0 c ∧ valR L 0 c ≤ 65535 := by
 unfold valR
 cases h : L.find? (fun r => r.has c) with
 | none => exact ⟨Int.le_refl _, by decide⟩
 | some r => exact hA.val r (List.mem_of_find?_eq_some h)
theorem apart_out {L : List Rng} (hA : Apart L) {c : Int} (h : c < 0 ∨ 1114111 < c) : valR L 0 c = 0 := by
 refine valR_none (fun r hr => ?_)
 cases hc : r.has c with
 | false => rfl
 | true =>
   rw [has_iff] at hc
   have := hA.low r hr
   omega
theorem Class_m (H : Nat) (w : World) (b : Nat) (F : Int → Int) (d : Int) (h : TrieFrom H w b F) (hF : d < 0 ∨ 1114111 < d → F d = 0) (hv : 0 ≤ F d ∧ F d ≤ 65535) (hd1 : -2147483648 ≤ d) (hd2 : d ≤ 2147483647) :
 Calls Tryz.prog 27 #[.agg #[.pointer (some ⟨b, 0, none⟩)], .int .i32 d] w fun e w' => e = .returned (.int .i64 (F d)) ∧ Up w w' := by
 have HG : Az (∀ W, Up w W → Calls Tryz.prog 79 #[.pointer (some ⟨b, 0, none⟩), .int .i64 d] W fun e w' => e = .returned (.int .i64 (F d)) ∧ Up W w') := ⟨fun W hW => Get_calls H W b F d (h.up hW) hF hv⟩
 clear h hF hv
 go_enter Tryz.func27, Tryz.ntmps27
 go_wp2_with (first | (go_at_call 79; (with_reducible refine (HG.out _ (up_alloc (up_refl _) _)).mono ?_); rintro e w1 ⟨rfl, hup1⟩))
 go_ret
 exact ⟨rfl, up_trans (up_alloc (up_refl _) _) hup1⟩
theorem Bidi_m (H : Nat) (w : World) (b : Nat) (F : Int → Int) (d : Int) (h : TrieFrom H w b F) (hF : d < 0 ∨ 1114111 < d → F d = 0) (hv : 0 ≤ F d ∧ F d ≤ 65535) (hd1 : -2147483648 ≤ d) (hd2 : d ≤ 2147483647) :
 Calls Tryz.prog 170 #[.agg #[.pointer (some ⟨b, 0, none⟩)], .int .i32 d] w fun e w' => e = .returned (.int .i64 (F d)) ∧ Up w w' := by
 have HG : Az (∀ W, Up w W → Calls Tryz.prog 79 #[.pointer (some ⟨b, 0, none⟩), .int .i64 d] W fun e w' => e = .returned (.int .i64 (F d)) ∧ Up W w') := ⟨fun W hW => Get_calls H W b F d (h.up hW) hF hv⟩
 clear h hF hv
 go_enter Tryz.func170, Tryz.ntmps170
 go_wp2_with (first | (go_at_call 79; (with_reducible refine (HG.out _ (up_alloc (up_refl _) _)).mono ?_); rintro e w1 ⟨rfl, hup1⟩))
 go_ret
 exact ⟨rfl, up_trans (up_alloc (up_refl _) _) hup1⟩
theorem Join_m (H : Nat) (w : World) (b : Nat) (F : Int → Int) (d : Int) (h : TrieFrom H w b F) (hF : d < 0 ∨ 1114111 < d → F d = 0) (hv : 0 ≤ F d ∧ F d ≤ 65535) (hd1 : -2147483648 ≤ d) (hd2 : d ≤ 2147483647) :
 Calls Tryz.prog 219 #[.agg #[.pointer (some ⟨b, 0, none⟩)], .int .i32 d] w fun e w' => e = .returned (.int .i64 (F d)) ∧ Up w w' := by
 have HG : Az (∀ W, Up w W → Calls Tryz.prog 79 #[.pointer (some ⟨b, 0, none⟩), .int .i64 d] W fun e w' => e = .returned (.int .i64 (F d)) ∧ Up W w') := ⟨fun W hW => Get_calls H W b F d (h.up hW) hF hv⟩
 clear h hF hv
 go_enter Tryz.func219, Tryz.ntmps219
 go_wp2_with (first | (go_at_call 79; (with_reducible refine (HG.out _ (up_alloc (up_refl _) _)).mono ?_); rintro e w1 ⟨rfl, hup1⟩))
 go_ret
 exact ⟨rfl, up_trans (up_alloc (up_refl _) _) hup1⟩
theorem Mark_m (H : Nat) (w : World) (b : Nat) (F : Int → Int) (d : Int) (r : Bool) (h : TrieFrom H w b F) (hF : d < 0 ∨ 1114111 < d → F d = 0) (hv : 0 ≤ F d ∧ F d ≤ 65535) (hd1 : -2147483648 ≤ d) (hd2 : d ≤ 2147483647) (hr : (F d == 1) = r) :
 Calls Tryz.prog 71 #[.agg #[.pointer (some ⟨b, 0, none⟩)], .int .i32 d] w fun e w' => e = .returned (.bool r) ∧ Up w w' := by
 have HG : Az (∀ W, Up w W → Calls Tryz.prog 79 #[.pointer (some ⟨b, 0, none⟩), .int .i64 d] W fun e w' => e = .returned (.int .i64 (F d)) ∧ Up W w') := ⟨fun W hW => Get_calls H W b F d (h.up hW) hF hv⟩
 clear h hF hv
 go_enter Tryz.func71, Tryz.ntmps71
 go_wp2_with (first | (go_at_call 79; (with_reducible refine (HG.out _ (up_alloc (up_refl _) _)).mono ?_); rintro e w1 ⟨rfl, hup1⟩))
 go_ret
 exact ⟨rfl, up_trans (up_alloc (up_refl _) _) hup1⟩
theorem Status_m (H : Nat) (w : World) (b : Nat) (p v : Value) (F : Int → Int) (d : Int) (h : TrieFrom H w b F) (hF : d < 0 ∨ 1114111 < d → F d = 0) (hv : 0 ≤ F d ∧ F d ≤ 65535) (hd1 : -2147483648 ≤ d) (hd2 : d ≤ 2147483647) (b2 : Nat) (A : Option Addr) (n c : Nat) (hp : p = .pointer (some ⟨b2, 0, none⟩)) (hvv : v = .slice A n c) :
 Calls Tryz.prog 70 #[.agg #[.pointer (some ⟨b, 0, none⟩), p, v], .int .i32 d] w fun e w' => e = .returned (.int .i64 (F d)) ∧ Up w w' := by
 subst hp
 subst hvv
 have HG : Az (∀ W, Up w W → Calls Tryz.prog 79 #[.pointer (some ⟨b, 0, none⟩), .int .i64 d] W fun e w' => e = .returned (.int .i64 (F d)) ∧ Up W w') := ⟨fun W hW => Get_calls H W b F d (h.up hW) hF hv⟩
 clear h hF hv
 go_enter Tryz.func70, Tryz.ntmps70
 go_wp2_with (first | (go_at_call 79; (with_reducible refine (HG.out _ (up_alloc (up_refl _) _)).mono ?_); rintro e w1 ⟨rfl, hup1⟩))
 go_ret
 exact ⟨rfl, up_trans (up_alloc (up_refl _) _) hup1⟩
end Go.Proofs.YtnohcnneflogjaaGreat.M
namespace Go.Proofs.YtnohcnneflogjaaGreat.M
open Go.RowKit
def mapF (T : List Rec) (d : Int) : List Int := match findR T 1 d with
 | some r => if r.kind = 4 then [wrap32 (wrap32 (rd r.to 0 + d) - wrap32 r.lo)] else if pM r then r.to else []
 | none => []
end Go.Proofs.YtnohcnneflogjaaGreat.M
namespace Go.Proofs.YtnohcnneflogjaaGreat.M
open Go.RowKit
theorem uL_calls (c : Int) (b : Bool) (w : World) (h : jl c = b) : Calls Tryz.prog 88 #[.int .i32 c] w fun e w' => e = .returned (.bool b) ∧ w = w' := by
 have h' : (decide (4352 ≤ c) && decide (c < 4371)) = b := by rw [← h, jl, Bool.eq_iff_iff]; simp; omega
 subst h'; clear h
 cases b1 : decide (4352 ≤ c) <;> cases b2 : decide (c < 4371) <;> (go_enter Tryz.func88, Tryz.ntmps88; go_wp2; go_ret; exact ⟨rfl, rfl⟩)
theorem uV_calls (c : Int) (b : Bool) (w : World) (h : jv c = b) : Calls Tryz.prog 89 #[.int .i32 c] w fun e w' => e = .returned (.bool b) ∧ w = w' := by
 have h' : (decide (4449 ≤ c) && decide (c < 4470)) = b := by rw [← h, jv, Bool.eq_iff_iff]; simp; omega
 subst h'; clear h
 cases b1 : decide (4449 ≤ c) <;> cases b2 : decide (c < 4470) <;> (go_enter Tryz.func89, Tryz.ntmps89; go_wp2; go_ret; exact ⟨rfl, rfl⟩)
theorem uT_calls (c : Int) (b : Bool) (w : World) (h : jt c = b) : Calls Tryz.prog 90 #[.int .i32 c] w fun e w' => e = .returned (.bool b) ∧ w = w' := by
 have h' : (decide (4519 < c) && decide (c < 4547)) = b := by rw [← h, jt, Bool.eq_iff_iff]; simp; omega
 subst h'; clear h
 cases b1 : decide (4519 < c) <;> cases b2 : decide (c < 4547) <;> (go_enter Tryz.func90, Tryz.ntmps90; go_wp2; go_ret; exact ⟨rfl, rfl⟩)
theorem usyl_calls (c : Int) (b : Bool) (w : World) (h : syl c = b) : Calls Tryz.prog 80 #[.int .i32 c] w fun e w' => e = .returned (.bool b) ∧ w = w' := by
 subst h; unfold syl
 cases b1 : decide (44032 ≤ c) <;> cases b2 : decide (c ≤ 55203) <;> (go_enter Tryz.func80, Tryz.ntmps80; go_wp2; go_ret; exact ⟨rfl, rfl⟩)
theorem zero_i32 (w : World) : (zeroValue 21).run Tryz.prog w = .ok (.int .i32 0) w := by kernel_rfl
def compF (T : List Rec) (a b : Int) : Int × Bool :=
 if jl a && jv b then (44032 + ((a - 4352) * 21 + b - 4449) * 28, true)
 else if (syl a && decide ((a - 44032) % 28 = 0)) && jt b then (a + b - 4519, true)
 else match T.find? (pairAt a b) with | some x => (x.lo, true) | none => (0, false)
theorem formsO_new (w : World) (bo bf bl bc bs : Nat) : (w.alloc (formsO bo bf bl bc bs)).heap[w.heap.size]? = some (formsO bo bf bl bc bs) := heap_alloc_new w _
theorem Compose_m (H : Nat) (w : World) (bo bf bl bc bs m : Nat) (T : List Rec) (a b : Int) (h : FormsP H w bo bf bl bc bs m T T) (ha1 : -2147483648 ≤ a) (ha2 : a ≤ 2147483647) (hb1 : -2147483648 ≤ b) (hb2 : b ≤ 2147483647) :
 Calls Tryz.prog 46 #[.agg #[.map (some bo), .map (some bf), .map (some bl), .map (some bc), .map (some bs)], .int .i32 a, .int .i32 b] w fun e w' => e = .returned (.tuple #[.int .i32 (compF T a b).1, .bool (compF T a b).2]) ∧ Up w w' := by
 have HC : Az (ValMap 125 pairK H (w.alloc (formsO bo bf bl bc bs)) bc m (compG T)) := ⟨h.comp.up (up_alloc (up_refl _) _)⟩
 have HK : Az (KeyOk Tryz.prog 125 (pairK (a, b))) := ⟨key_upair (i32_wf ha1 ha2) (i32_wf hb1 hb2)⟩
 obtain ⟨k0, k1, k2, k3, k4⟩ := formsO_cells (formsO_new w bo bf bl bc bs)
 have HJ : ∀ x y, jl x = true → jv y = true → 4352 ≤ x ∧ x ≤ 4370 ∧ 4449 ≤ y ∧ y ≤ 4469 := fun x y h1 h2 => by simp [jl, jv] at h1 h2; omega
 by_cases hi : jl a = true ∧ jv b = true
 ·obtain ⟨h1, h2⟩ := hi
  have hc : compF T a b = (44032 + ((a - 4352) * 21 + b - 4449) * 28, true) := by unfold compF; rw [h1, h2]; rfl
  rw [hc]
  obtain ⟨p1, p2, p3, p4⟩ := HJ a b h1 h2
  have H1 := Az.mk h1
  have H2 := Az.mk h2
  clear h hc h1 h2 ha1 ha2 hb1 hb2 HJ
  go_enter Tryz.func46, Tryz.ntmps46
  go_wp2_with (first | (go_at_call 88; (with_reducible refine (uL_calls a _ _ H1.out).mono ?_); rintro e w1 ⟨rfl, rfl⟩) | (go_at_call 89; (with_reducible refine (uV_calls b _ _ H2.out).mono ?_); rintro e w1 ⟨rfl, rfl⟩) | (go_at_call 80; (with_reducible refine (usyl_calls a _ _ H3.out).mono ?_); rintro e w1 ⟨rfl, rfl⟩) | (go_at_call 90; (with_reducible refine (uT_calls b _ _ H4.out).mono ?_); rintro e w1 ⟨rfl, rfl⟩))
  go_ret2
  exact ⟨rfl, up_alloc (up_refl _) _⟩
 have hI : (jl a && jv b) = false := by
  cases h1 : jl a <;> cases h2 : jv b <;> simp_all
 by_cases hii : syl a = true ∧ (a - 44032) % 28 = 0 ∧ jt b = true
 ·obtain ⟨h3, hr, h4⟩ := hii
  have hc : compF T a b = (a + b - 4519, true) := by
   unfold compF
   rw [if_neg (by rw [hI]; decide), h3, h4, dTz hr]
   rfl
  rw [hc]
  have h1 : jl a = false := by simp [syl, jl] at *; omega
  have hs := syl_iff h3
  have p1 : 44032 ≤ a := hs.1
  have p2 : a ≤ 55203 := hs.2
  have hb : 4520 ≤ b ∧ b ≤ 4546 := by simpa [jt] using h4
  obtain ⟨p3, p4⟩ := hb
  have er : ((a - 44032) % 28 == 0) = true := beq_iff_eq.mpr hr
  have H1 := Az.mk h1
  have H3 := Az.mk h3
  have H4 := Az.mk h4
  clear h hc h1 h3 h4 hr hs ha1 ha2 hb1 hb2 HJ hI hi
  go_enter Tryz.func46, Tryz.ntmps46
  go_wp2_with (first | (go_at_call 88; (with_reducible refine (uL_calls a _ _ H1.out).mono ?_); rintro e w1 ⟨rfl, rfl⟩) | (go_at_call 89; (with_reducible refine (uV_calls b _ _ H2.out).mono ?_); rintro e w1 ⟨rfl, rfl⟩) | (go_at_call 80; (with_reducible refine (usyl_calls a _ _ H3.out).mono ?_); rintro e w1 ⟨rfl, rfl⟩) | (go_at_call 90; (with_reducible refine (uT_calls b _ _ H4.out).mono ?_); rintro e w1 ⟨rfl, rfl⟩))
  go_ret2
  exact ⟨rfl, up_alloc (up_refl _) _⟩
 have hII : ((syl a && decide ((a - 44032) % 28 = 0)) && jt b) = false := by
  cases h3 : syl a <;> cases h4 : jt b <;> by_cases hr : (a - 44032) % 28 = 0 <;> simp_all
 obtain ⟨v, ok, hgd, his, hval⟩ : ∃ (v : Int) (ok : Bool), (compG T (a, b)).getD (.int .i32 0) = .int .i32 v ∧ (compG T (a, b)).isSome = ok ∧ compF T a b = (v, ok) := by
  unfold compF compG
  rw [if_neg (by rw [hI]; decide), if_neg (by rw [hII]; decide)]
  cases T.find? (pairAt a b) with
  | none => exact ⟨0, false, rfl, rfl, rfl⟩
  | some x => exact ⟨x.lo, true, rfl, rfl, rfl⟩
 rw [hval]
 have HGD := Az.mk hgd
 have HIS := Az.mk his
 have HI := Az.mk hI
 have HII := Az.mk hII
 have hfirst : (jl a = true ∧ jv b = false) ∨ jl a = false := by
  cases h1 : jl a <;> cases h2 : jv b <;> simp_all
 have hsec : syl a = false ∨ (syl a = true ∧ ((a - 44032) % 28 == 0) = false) ∨ (syl a = true ∧ ((a - 44032) % 28 == 0) = true ∧ jt b = false) := by
  cases h3 : syl a <;> cases h4 : jt b <;> by_cases hr : (a - 44032) % 28 = 0 <;> simp_all
 clear hgd his hval hI hII hi hii HJ h ha1 ha2 hb1 hb2
 rcases hsec with h3 | ⟨h3, er⟩ | ⟨h3, er, h4⟩
 ·have H3 := Az.mk h3
  clear h3
  rcases hfirst with ⟨h1, h2⟩ | h1
  ·have H1 := Az.mk h1
   have H2 := Az.mk h2
   clear h1 h2
   go_enter Tryz.func46, Tryz.ntmps46
   go_wp2_with (first | (go_at_call 88; (with_reducible refine (uL_calls a _ _ H1.out).mono ?_); rintro e w1 ⟨rfl, rfl⟩) | (go_at_call 89; (with_reducible refine (uV_calls b _ _ H2.out).mono ?_); rintro e w1 ⟨rfl, rfl⟩) | (go_at_call 80; (with_reducible refine (usyl_calls a _ _ H3.out).mono ?_); rintro e w1 ⟨rfl, rfl⟩) | (go_at_call 90; (with_reducible refine (uT_calls b _ _ H4.out).mono ?_); rintro e w1 ⟨rfl, rfl⟩) | (at_lookup; refine wpList_lookVal _ rfl _ _ 44 true rfl 125 21 keyed_upair Tryz.underlying44 (zero_i32 _) H bc m (compG T) rfl HC.out (a, b) HK.out rfl (.tuple #[.int .i32 v, .bool ok]) (by rw [HGD.out, HIS.out]; rfl) ?_))
   go_ret2
   exact ⟨rfl, up_alloc (up_refl _) _⟩
  ·have H1 := Az.mk h1
   clear h1
   go_enter Tryz.func46, Tryz.ntmps46
   go_wp2_with (first | (go_at_call 88; (with_reducible refine (uL_calls a _ _ H1.out).mono ?_); rintro e w1 ⟨rfl, rfl⟩) | (go_at_call 89; (with_reducible refine (uV_calls b _ _ H2.out).mono ?_); rintro e w1 ⟨rfl, rfl⟩) | (go_at_call 80; (with_reducible refine (usyl_calls a _ _ H3.out).mono ?_); rintro e w1 ⟨rfl, rfl⟩) | (go_at_call 90; (with_reducible refine (uT_calls b _ _ H4.out).mono ?_); rintro e w1 ⟨rfl, rfl⟩) | (at_lookup; refine wpList_lookVal _ rfl _ _ 44 true rfl 125 21 keyed_upair Tryz.underlying44 (zero_i32 _) H bc m (compG T) rfl HC.out (a, b) HK.out rfl (.tuple #[.int .i32 v, .bool ok]) (by rw [HGD.out, HIS.out]; rfl) ?_))
   go_ret2
   exact ⟨rfl, up_alloc (up_refl _) _⟩
 ·have H3 := Az.mk h3
  have hs := syl_iff h3
  have p1 : 44032 ≤ a := hs.1
  have p2 : a ≤ 55203 := hs.2
  clear h3 hs
  rcases hfirst with ⟨h1, h2⟩ | h1
  ·have H1 := Az.mk h1
   have H2 := Az.mk h2
   clear h1 h2
   go_enter Tryz.func46, Tryz.ntmps46
   go_wp2_with (first | (go_at_call 88; (with_reducible refine (uL_calls a _ _ H1.out).mono ?_); rintro e w1 ⟨rfl, rfl⟩) | (go_at_call 89; (with_reducible refine (uV_calls b _ _ H2.out).mono ?_); rintro e w1 ⟨rfl, rfl⟩) | (go_at_call 80; (with_reducible refine (usyl_calls a _ _ H3.out).mono ?_); rintro e w1 ⟨rfl, rfl⟩) | (go_at_call 90; (with_reducible refine (uT_calls b _ _ H4.out).mono ?_); rintro e w1 ⟨rfl, rfl⟩) | (at_lookup; refine wpList_lookVal _ rfl _ _ 44 true rfl 125 21 keyed_upair Tryz.underlying44 (zero_i32 _) H bc m (compG T) rfl HC.out (a, b) HK.out rfl (.tuple #[.int .i32 v, .bool ok]) (by rw [HGD.out, HIS.out]; rfl) ?_))
   go_ret2
   exact ⟨rfl, up_alloc (up_refl _) _⟩
  ·have H1 := Az.mk h1
   clear h1
   go_enter Tryz.func46, Tryz.ntmps46
   go_wp2_with (first | (go_at_call 88; (with_reducible refine (uL_calls a _ _ H1.out).mono ?_); rintro e w1 ⟨rfl, rfl⟩) | (go_at_call 89; (with_reducible refine (uV_calls b _ _ H2.out).mono ?_); rintro e w1 ⟨rfl, rfl⟩) | (go_at_call 80; (with_reducible refine (usyl_calls a _ _ H3.out).mono ?_); rintro e w1 ⟨rfl, rfl⟩) | (go_at_call 90; (with_reducible refine (uT_calls b _ _ H4.out).mono ?_); rintro e w1 ⟨rfl, rfl⟩) | (at_lookup; refine wpList_lookVal _ rfl _ _ 44 true rfl 125 21 keyed_upair Tryz.underlying44 (zero_i32 _) H bc m (compG T) rfl HC.out (a, b) HK.out rfl (.tuple #[.int .i32 v, .bool ok]) (by rw [HGD.out, HIS.out]; rfl) ?_))
   go_ret2
   exact ⟨rfl, up_alloc (up_refl _) _⟩
 ·have H3 := Az.mk h3
  have H4 := Az.mk h4
  have hs := syl_iff h3
  have p1 : 44032 ≤ a := hs.1
  have p2 : a ≤ 55203 := hs.2
  clear h3 hs h4
  rcases hfirst with ⟨h1, h2⟩ | h1
  ·have H1 := Az.mk h1
   have H2 := Az.mk h2
   clear h1 h2
   go_enter Tryz.func46, Tryz.ntmps46
   go_wp2_with (first | (go_at_call 88; (with_reducible refine (uL_calls a _ _ H1.out).mono ?_); rintro e w1 ⟨rfl, rfl⟩) | (go_at_call 89; (with_reducible refine (uV_calls b _ _ H2.out).mono ?_); rintro e w1 ⟨rfl, rfl⟩) | (go_at_call 80; (with_reducible refine (usyl_calls a _ _ H3.out).mono ?_); rintro e w1 ⟨rfl, rfl⟩) | (go_at_call 90; (with_reducible refine (uT_calls b _ _ H4.out).mono ?_); rintro e w1 ⟨rfl, rfl⟩) | (at_lookup; refine wpList_lookVal _ rfl _ _ 44 true rfl 125 21 keyed_upair Tryz.underlying44 (zero_i32 _) H bc m (compG T) rfl HC.out (a, b) HK.out rfl (.tuple #[.int .i32 v, .bool ok]) (by rw [HGD.out, HIS.out]; rfl) ?_))
   go_ret2
   exact ⟨rfl, up_alloc (up_refl _) _⟩
  ·have H1 := Az.mk h1
   clear h1
   go_enter Tryz.func46, Tryz.ntmps46
   go_wp2_with (first | (go_at_call 88; (with_reducible refine (uL_calls a _ _ H1.out).mono ?_); rintro e w1 ⟨rfl, rfl⟩) | (go_at_call 89; (with_reducible refine (uV_calls b _ _ H2.out).mono ?_); rintro e w1 ⟨rfl, rfl⟩) | (go_at_call 80; (with_reducible refine (usyl_calls a _ _ H3.out).mono ?_); rintro e w1 ⟨rfl, rfl⟩) | (go_at_call 90; (with_reducible refine (uT_calls b _ _ H4.out).mono ?_); rintro e w1 ⟨rfl, rfl⟩) | (at_lookup; refine wpList_lookVal _ rfl _ _ 44 true rfl 125 21 keyed_upair Tryz.underlying44 (zero_i32 _) H bc m (compG T) rfl HC.out (a, b) HK.out rfl (.tuple #[.int .i32 v, .bool ok]) (by rw [HGD.out, HIS.out]; rfl) ?_))
   go_ret2
   exact ⟨rfl, up_alloc (up_refl _) _⟩
theorem rngsOf_get (f : Nat → Int) : ∀ (P : List Rec) (j k : Nat), (rngsOf f j P)[k]? = (P[k]?).map (fun x => ⟨x.lo, x.hi, f (j + k)⟩)
 | [], j, k => by simp [rngsOf]
 | y :: P, j, 0 => rfl
 | y :: P, j, k + 1 => by
   show (rngsOf f (j + 1) P)[k]? = (P[k]?).map _
   rw [rngsOf_get f P (j + 1) k, show j + 1 + k = j + (k + 1) by omega]
theorem cost_cases {T : List Rec} (hG : Good T) {L : List Nat} (hL : L.length = (ofKind T 14).length) (d : Int) : (costF T d = 0 ∧ findR T 9 d = none) ∨ ∃ (k : Nat) (x : Rec), costF T d = (k : Int) + 1 ∧ k < L.length ∧ findR T 9 d = some x ∧ (ofKind T 14)[k]? = some x := by
 have hone := fam_one hG (k := 14) (fk := 9) (.inr (.inr (.inr (.inr (.inr (.inr ⟨rfl, rfl⟩))))))
 have hkind : ∀ x ∈ ofKind T 14, x ∈ T ∧ x.kind = 14 := fun x hx => ⟨(List.mem_filter.1 hx).1, by simpa [ofKind] using (List.mem_filter.1 hx).2⟩
 have hhas : ∀ x ∈ ofKind T 14, ∀ v, ((⟨x.lo, x.hi, v⟩ : Rng).has d = true ↔ hitB 9 d x = true) := fun x hx v => by
  obtain ⟨h1, h2⟩ := hkind x hx
  have hl := (hG.right x h1).low
  rw [has_iff]
  unfold hitB speaksB
  rw [dTz ((hone x h1).2 h2), dTz (show x.kind ≠ 4 by rw [h2]; decide)]
  simp
  omega
 unfold costF valR
 cases hf : (rngsOf costV 0 (ofKind T 14)).find? (fun r => r.has d) with
 | none =>
   left
   refine ⟨rfl, ?_⟩
   cases hr : findR T 9 d with
   | none => rfl
   | some x =>
     obtain ⟨h1, h2⟩ := findR_some hr
     have hk : x.kind = 14 := (hone x h1).1 (by unfold hitB at h2; simp only [Bool.and_eq_true, decide_eq_true_eq] at h2; exact h2.1)
     have hx : x ∈ ofKind T 14 := by unfold ofKind; rw [List.mem_filter]; exact ⟨h1, by simpa using hk⟩
     obtain ⟨k, hk'⟩ := List.mem_iff_getElem?.1 hx
     have h3 := rngsOf_get costV (ofKind T 14) 0 k
     rw [hk'] at h3
     rw [List.find?_eq_none] at hf
     exact absurd ((hhas x hx _).2 h2) (hf _ (List.mem_of_getElem? h3))
 | some r =>
   right
   have h1 := List.mem_of_find?_eq_some hf
   have h2 : r.has d = true := List.find?_some (p := fun r : Rng => r.has d) hf
   obtain ⟨k, hk⟩ := List.mem_iff_getElem?.1 h1
   rw [rngsOf_get] at hk
   obtain ⟨x, hx, hxr⟩ := Option.map_eq_some_iff.1 hk
   subst hxr
   have hxm := List.mem_of_getElem? hx
   have hkl := (List.getElem?_eq_some_iff.1 hx).1
   obtain ⟨i, hi⟩ := List.mem_iff_getElem?.1 (hkind x hxm).1
   refine ⟨k, x, by simp [costV], by omega, hG.find_at hi ((hhas x hxm _).1 h2) (by decide), hx⟩
end Go.Proofs.YtnohcnneflogjaaGreat.M
namespace Go.Proofs.YtnohcnneflogjaaGreat.M
open Go.RowKit
theorem Made_fine (A : Option Addr) (c : Nat) (T : List Rec) (n : Nat) (w : World) (hT : Table w A T) (hW : ∀ x ∈ T, x.Wf) (hc : T.length ≤ c) (hn : T.length = n) (hl : n ≤ 150) (he : (checkE T).2 = 0) :
 Calls Tryz.prog 21 #[.slice A n c] w fun e w' => ∃ bd D A c, e = .returned (.tuple #[.pointer (some ⟨bd, 0, none⟩), .slice A n c, .int .i64 1]) ∧ DataAt w.heap.size w' bd D T ∧ TabFrom w.heap.size w' A T ∧ Up w w' := by
 subst hn
 have ht : T.take 150 = T := List.take_of_length_le hl
 refine (Made_calls A c T w hT hW hc).mono ?_
 rintro e w' h
 rw [ht] at h
 rcases h with ⟨h, _⟩ | ⟨_, h⟩
 ·exact absurd he h
 ·exact h
theorem DataAt.cell {H : Nat} {w : World} {bd : Nat} {D : DataV} {T : List Rec} (h : DataAt H w bd D T) (o : Nat) (v : Value) (hv : (D.cells T)[o]? = some v) : w.cell? ⟨bd, o, none⟩ = some v := (data_cell h.box hv).1
theorem DataAt.all {H : Nat} {w : World} {bd : Nat} {D : DataV} {T : List Rec} (h : DataAt H w bd D T) :
 (w.cell? ⟨bd, 0, none⟩ = some (.pointer (some ⟨D.b1, 0, none⟩)) ∧ w.cell? ⟨bd, 1, none⟩ = some (.pointer (some ⟨D.b2, 0, none⟩)) ∧ w.cell? ⟨bd, 2, none⟩ = some (.slice D.A1 D.n1 D.c1) ∧ w.cell? ⟨bd, 3, none⟩ = some (.pointer (some ⟨D.b3, 0, none⟩)) ∧ w.cell? ⟨bd, 4, none⟩ = some (.pointer (some ⟨D.b4, 0, none⟩)) ∧ w.cell? ⟨bd, 5, none⟩ = some (.pointer (some ⟨D.b5, 0, none⟩)) ∧ w.cell? ⟨bd, 6, none⟩ = some (.pointer (some ⟨D.b6, 0, none⟩))) ∧
 (w.cell? ⟨bd, 7, none⟩ = some (.map (some D.bo)) ∧ w.cell? ⟨bd, 8, none⟩ = some (.map (some D.bf)) ∧ w.cell? ⟨bd, 9, none⟩ = some (.map (some D.bl)) ∧ w.cell? ⟨bd, 10, none⟩ = some (.map (some D.bc)) ∧ w.cell? ⟨bd, 11, none⟩ = some (.map (some D.bs))) ∧
 w.cell? ⟨bd, 12, none⟩ = some (.pointer (some ⟨D.b7, 0, none⟩)) ∧ w.cell? ⟨bd, 13, none⟩ = some (.slice D.A2 (namesR (ofKind T 12)).length D.c2) ∧ w.cell? ⟨bd, 14, none⟩ = some (.pointer (some ⟨D.b8, 0, none⟩)) ∧ w.cell? ⟨bd, 15, none⟩ = some (.slice D.A3 D.n3 D.c3) ∧ w.cell? ⟨bd, 16, none⟩ = some (.map (some D.bm)) :=
 ⟨⟨h.cell 0 _ rfl, h.cell 1 _ rfl, h.cell 2 _ rfl, h.cell 3 _ rfl, h.cell 4 _ rfl, h.cell 5 _ rfl, h.cell 6 _ rfl⟩, ⟨h.cell 7 _ rfl, h.cell 8 _ rfl, h.cell 9 _ rfl, h.cell 10 _ rfl, h.cell 11 _ rfl⟩, h.cell 12 _ rfl, h.cell 13 _ rfl, h.cell 14 _ rfl, h.cell 15 _ rfl, h.cell 16 _ rfl⟩
section
variable {H : Nat} {w : World} {bd : Nat} {D : DataV} {T : List Rec}
theorem DataAt.Status (h : DataAt H w bd D T) (d : Int) (r : Int) (hr : statF T d = r) (hd1 : -2147483648 ≤ d) (hd2 : d ≤ 2147483647) :
 Calls Tryz.prog 70 #[.agg #[.pointer (some ⟨D.b1, 0, none⟩), .pointer (some ⟨D.b2, 0, none⟩), .slice D.A1 D.n1 D.c1], .int .i32 d] w fun e w' => e = .returned (.int .i64 r) ∧ Up w w' := by
 subst hr
 exact Status_m _ w D.b1 _ _ (statF T) d h.stat.trie (statF_out) (statF_range d) hd1 hd2 D.b2 D.A1 D.n1 D.c1 rfl rfl
theorem DataAt.Class (h : DataAt H w bd D T) (hG : Good T) (d : Int) (r : Int) (hr : numF T 2 (·.n) d = r) (hd1 : -2147483648 ≤ d) (hd2 : d ≤ 2147483647) :
 Calls Tryz.prog 27 #[.agg #[.pointer (some ⟨D.b3, 0, none⟩)], .int .i32 d] w fun e w' => e = .returned (.int .i64 r) ∧ Up w w' := by
 subst hr
 exact Class_m _ w D.b3 _ d h.cls numF_out (numF_range (fun x hx hf => right_n (hG.right x hx) (.inl hf))) hd1 hd2
theorem DataAt.Bidi (h : DataAt H w bd D T) (hG : Good T) (d : Int) (r : Int) (hr : numF T 4 (·.n) d = r) (hd1 : -2147483648 ≤ d) (hd2 : d ≤ 2147483647) :
 Calls Tryz.prog 170 #[.agg #[.pointer (some ⟨D.b4, 0, none⟩)], .int .i32 d] w fun e w' => e = .returned (.int .i64 r) ∧ Up w w' := by
 subst hr
 exact Bidi_m _ w D.b4 _ d h.bidi numF_out (numF_range (fun x hx hf => right_n (hG.right x hx) (.inr (.inl hf)))) hd1 hd2
theorem DataAt.Join (h : DataAt H w bd D T) (hG : Good T) (d : Int) (r : Int) (hr : numF T 5 (·.n) d = r) (hd1 : -2147483648 ≤ d) (hd2 : d ≤ 2147483647) :
 Calls Tryz.prog 219 #[.agg #[.pointer (some ⟨D.b5, 0, none⟩)], .int .i32 d] w fun e w' => e = .returned (.int .i64 r) ∧ Up w w' := by
 subst hr
 exact Join_m _ w D.b5 _ d h.join numF_out (numF_range (fun x hx hf => right_n (hG.right x hx) (.inr (.inr hf)))) hd1 hd2
theorem DataAt.Mark (h : DataAt H w bd D T) (d : Int) (r : Bool) (hr : (numF T 6 (fun _ => 1) d == 1) = r) (hd1 : -2147483648 ≤ d) (hd2 : d ≤ 2147483647) :
 Calls Tryz.prog 71 #[.agg #[.pointer (some ⟨D.b6, 0, none⟩)], .int .i32 d] w fun e w' => e = .returned (.bool r) ∧ Up w w' :=
 Mark_m _ w D.b6 _ d r h.mark numF_out (numF_range (fun x hx hf => by omega)) hd1 hd2 hr
theorem DataAt.Compose (h : DataAt H w bd D T) (a b : Int) (r : Int) (ok : Bool) (hr : compF T a b = (r, ok)) (ha1 : -2147483648 ≤ a) (ha2 : a ≤ 2147483647) (hb1 : -2147483648 ≤ b) (hb2 : b ≤ 2147483647) :
 Calls Tryz.prog 46 #[.agg #[.map (some D.bo), .map (some D.bf), .map (some D.bl), .map (some D.bc), .map (some D.bs)], .int .i32 a, .int .i32 b] w fun e w' => e = .returned (.tuple #[.int .i32 r, .bool ok]) ∧ Up w w' := by
 obtain ⟨m, hf⟩ := h.forms
 have := Compose_m _ w D.bo D.bf D.bl D.bc D.bs m T a b hf ha1 ha2 hb1 hb2
 rw [hr] at this
 exact this
end
theorem little_good : Good littleT := (fine_of littleT_wf littleT_fine).toGood
end Go.Proofs.YtnohcnneflogjaaGreat.M
