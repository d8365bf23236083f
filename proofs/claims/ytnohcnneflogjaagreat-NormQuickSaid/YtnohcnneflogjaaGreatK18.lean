/- What is wrong with a record, walked: the document's. -/
import Derived.Test.YtnohcnneflogjaaGreatK17
set_option maxHeartbeats 16000000
set_option maxRecDepth 100000
set_option linter.unusedVariables false
set_option linter.unusedSimpArgs false
namespace Go.Proofs.YtnohcnneflogjaaGreat.M
open Go.RowKit
theorem walkF_range {T : List Rec} (hW : ∀ x ∈ T, x.Wf) : ∀ (fuel : Nat) (d : Int) (way out l : List Int), -2147483648 ≤ d → d ≤ 2147483647 → InI32 out → walkF T fuel d way out = .ok l → InI32 l
 | fuel, d, way, out, l, h1, h2, ho, h => by
   by_cases hx : openF T d = []
   ·rw [walkF_nil hx] at h
    split at h
    ·cases h
    ·cases h
     intro t ht
     rw [List.mem_append, List.mem_singleton] at ht
     rcases ht with ht | rfl
     ·exact ho t ht
     ·exact ⟨h1, h2⟩
   ·by_cases hw : d ∈ way
    ·rw [walkF_loop hx hw] at h
     cases h
    ·cases fuel with
     | zero =>
       rw [walkF_deep hx hw] at h
       cases h
     | succ m =>
       rw [walkF_step hx hw] at h
       have key : ∀ (X : List Int) (o : List Int), InI32 X → InI32 o → X.foldlM (fun o t => walkF T m t (way ++ [d]) o) o = .ok l → InI32 l := by
        intro X
        induction X with
        | nil =>
          intro o _ hoo e
          cases e
          exact hoo
        | cons a X ih =>
          intro o hX hoo e
          rw [List.foldlM_cons] at e
          cases hr : walkF T m a (way ++ [d]) o with
          | error k => rw [hr] at e; cases e
          | ok o' =>
            rw [hr] at e
            have ha := hX a (by simp)
            exact ih o' (fun t ht => hX t (by simp [ht])) (walkF_range hW m a _ o o' ha.1 ha.2 hoo hr) e
       exact key _ _ (openF_range hW) ho h
theorem fullF_range {T : List Rec} (hW : ∀ x ∈ T, x.Wf) {d : Int} {l : List Int} (h1 : -2147483648 ≤ d) (h2 : d ≤ 2147483647) (h : fullF T d = .ok l) : InI32 l :=
 walkF_range hW 16 d [] [] l h1 h2 (fun t ht => by cases ht) h
theorem covers_calls (x : Rec) (A : Option Addr) (c : Nat) (lo hi : Int) (b : Bool) (w : World) (h : coversB x lo hi = b) : Calls Tryz.prog 150 #[recV x A c, .int .i64 lo, .int .i64 hi] w fun e w' => e = .returned (.bool b) ∧ Up w w' := by
 have hu96 := Tryz.underlying113
 subst h
 unfold coversB
 cases b1 : decide (x.lo ≤ hi) <;> cases b2 : decide (lo ≤ x.hi) <;> (go_enter Tryz.func150, Tryz.ntmps150; go_wp2; go_ret; exact ⟨rfl, up_alloc (up_refl _) _⟩)
theorem jamo_no {j1 j2 s1 j3 : Bool} {P : Prop} [Decidable P] (h : (j1 && j2 || s1 && decide P && j3) = false) :
 (j1 = false ∨ (j1 = true ∧ j2 = false)) ∧ (s1 = false ∨ (s1 = true ∧ decide P = false ∧ ¬ P) ∨ (s1 = true ∧ decide P = true ∧ P ∧ j3 = false)) := by
 by_cases hp : P <;> cases j1 <;> cases j2 <;> cases s1 <;> cases j3 <;> simp_all
theorem jamo_yes {j1 j2 s1 j3 : Bool} {P : Prop} [Decidable P] (h : (j1 && j2 || s1 && decide P && j3) = true) :
 (j1 = true ∧ j2 = true) ∨ ((j1 = false ∨ (j1 = true ∧ j2 = false)) ∧ s1 = true ∧ decide P = true ∧ P ∧ j3 = true) := by
 by_cases hp : P <;> cases j1 <;> cases j2 <;> cases s1 <;> cases j3 <;> simp_all
theorem syl_tmod (a : Int) : (syl a && decide ((a - 44032) % 28 = 0)) = (syl a && decide ((a - 44032).tmod 28 = 0)) := by
 cases h : syl a with
 | false => rfl
 | true =>
   unfold syl at h
   simp only [Bool.and_eq_true, decide_eq_true_eq] at h
   rw [Int.tmod_eq_emod_of_nonneg (by omega)]
theorem covers_no {a b c d : Bool} (h : (a || b || c || d) = false) : a = false ∧ b = false ∧ c = false ∧ d = false := by
 cases a <;> cases b <;> cases c <;> cases d <;> simp_all
theorem covers_yes {a b c d : Bool} (h : (a || b || c || d) = true) : a = true ∨ (a = false ∧ b = true) ∨ (a = false ∧ b = false ∧ c = true) ∨ (a = false ∧ b = false ∧ c = false ∧ d = true) := by
 cases a <;> cases b <;> cases c <;> cases d <;> simp_all
theorem record_other (ad : Addr) (c : Nat) (T : List Rec) (i : Nat) (x : Rec) (r : Int) (w : World) (hA : Asked w (some ad) T) (hx : T[i]? = some x) (hf2 : fam x.kind ≠ 2) (hf3 : fam x.kind ≠ 3) (hr : r = 0) :
 Calls Tryz.prog 115 #[.slice (some ad) T.length c, .int .i64 i] w fun e w' => e = .returned (.int .i64 r) ∧ Up w w' := by
 have hu96 := Tryz.underlying113
 have hi : i < T.length := (List.getElem?_eq_some_iff.1 hx).1
 have hi4 : i ≤ 4096 := by have := hA.len; omega
 have hRx : Right x := hA.right x (List.mem_of_getElem? hx)
 obtain ⟨ad0, hA0, A', c', hrec, hto⟩ := hA.tab i x hx
 cases hA0
 have hlow := hRx.low
 have p1 : 0 ≤ (i : Int) := by omega
 have p2 : (i : Int) < (T.length : Int) := by omega
 have p3 : 0 ≤ x.lo := hlow.1
 have p4 : x.lo ≤ 1114111 := by omega
 have RL : Az (-2147483648 ≤ x.lo ∧ x.lo ≤ 2147483647) := ⟨by omega⟩
 have HX := Az.mk hx
 have HA := Az.mk hA
 obtain ⟨g0, g1, g2, g3, g4, g5, g6, g7⟩ := hrec
 have RB := recBox_new w x A' c'
 have HU := up_alloc (up_refl w) (recO x A' c')
 subst hr
 have f2 : (fam x.kind == 2) = false := bqf hf2
 have f2' : (fam x.kind != 2) = true := bne_iff_ne.mpr hf2
 have f3 : (fam x.kind == 3) = false := bqf hf3
 have f3' : (fam x.kind != 3) = true := bne_iff_ne.mpr hf3
 clear hf2 hf3 hA hx hRx hlow hto hi
 go_enter Tryz.func115, Tryz.ntmps115
 go_wp2_with (first | (go_at_call 149; (with_reducible refine (RFamily_calls x.kind _).mono ?_); rintro e w1 ⟨rfl, hb1⟩; replace RB := RB.keep hb1; have RC := RB; obtain ⟨k0, k1, k2, k3, k4, k5, k6, k7⟩ := RC; replace HU := up_trans HU hb1))
 go_ret
 exact ⟨rfl, HU⟩
theorem fullF_len {T : List Rec} {d : Int} {l : List Int} (h : fullF T d = .ok l) : l.length ≤ 32 := by
 have key : ∀ (fuel : Nat) (d : Int) (way out l : List Int), out.length ≤ 32 → walkF T fuel d way out = .ok l → l.length ≤ 32 := by
  intro fuel
  induction fuel with
  | zero =>
    intro d way out l ho h
    by_cases hx : openF T d = []
    ·rw [walkF_nil hx] at h
     split at h
     ·cases h
     ·cases h
      simp
      omega
    ·by_cases hw : d ∈ way
     ·rw [walkF_loop hx hw] at h; cases h
     ·rw [walkF_deep hx hw] at h; cases h
  | succ m ih =>
    intro d way out l ho h
    by_cases hx : openF T d = []
    ·rw [walkF_nil hx] at h
     split at h
     ·cases h
     ·cases h
      simp
      omega
    ·by_cases hw : d ∈ way
     ·rw [walkF_loop hx hw] at h; cases h
     ·rw [walkF_step hx hw] at h
      have fk : ∀ (X : List Int) (o : List Int), o.length ≤ 32 → X.foldlM (fun o t => walkF T m t (way ++ [d]) o) o = .ok l → l.length ≤ 32 := by
       intro X
       induction X with
       | nil => intro o hoo e; cases e; exact hoo
       | cons a X ihx =>
         intro o hoo e
         rw [List.foldlM_cons] at e
         cases hr : walkF T m a (way ++ [d]) o with
         | error k => rw [hr] at e; cases e
         | ok o' =>
           rw [hr] at e
           exact ihx o' (ih a _ o o' hoo hr) e
      exact fk _ _ ho h
 exact key 16 d [] [] l (by decide) h
theorem mrrecord_1 {p : Prop} (h : p := by
 have hw := wrongE_hangul (T := T) hff hlo (by rw [hhg, hc, Bool.true_or])
 rw [recordE_wrong hx (by rw [hw]; decide), hw] at hr
 subst hr
 clear hw hlo
 clear hA hx hRx hlow hto hi hff hhg hcv hk
 rcases covers_yes hc with c1 | ⟨c1, c2⟩ | ⟨c1, c2, c3⟩ | ⟨c1, c2, c3, c4⟩
 ·clear hc
  go_enter Tryz.func115, Tryz.ntmps115
  go_wp2_with ((first | (go_at_call 149; (with_reducible refine (RFamily_calls x.kind _).mono ?_)) | (go_at_call 150; (with_reducible refine (covers_calls x _ c' 0 127 _ _ c0).mono ?_)) | (go_at_call 150; (with_reducible refine (covers_calls x _ c' 4352 4370 _ _ c1).mono ?_))); rintro e w1 ⟨rfl, hb1⟩; replace RB := RB.keep hb1; have RC := RB; obtain ⟨k0, k1, k2, k3, k4, k5, k6, k7⟩ := RC; replace HU := up_trans HU hb1)
  go_ret
  exact ⟨rfl, HU⟩
 ·clear hc
  go_enter Tryz.func115, Tryz.ntmps115
  go_wp2_with ((first | (go_at_call 149; (with_reducible refine (RFamily_calls x.kind _).mono ?_)) | (go_at_call 150; (with_reducible refine (covers_calls x _ c' 0 127 _ _ c0).mono ?_)) | (go_at_call 150; (with_reducible refine (covers_calls x _ c' 4352 4370 _ _ c1).mono ?_)) | (go_at_call 150; (with_reducible refine (covers_calls x _ c' 4449 4469 _ _ c2).mono ?_))); rintro e w1 ⟨rfl, hb1⟩; replace RB := RB.keep hb1; have RC := RB; obtain ⟨k0, k1, k2, k3, k4, k5, k6, k7⟩ := RC; replace HU := up_trans HU hb1)
  go_ret
  exact ⟨rfl, HU⟩
 ·clear hc
  go_enter Tryz.func115, Tryz.ntmps115
  go_wp2_with ((first | (go_at_call 149; (with_reducible refine (RFamily_calls x.kind _).mono ?_)) | (go_at_call 150; (with_reducible refine (covers_calls x _ c' 0 127 _ _ c0).mono ?_)) | (go_at_call 150; (with_reducible refine (covers_calls x _ c' 4352 4370 _ _ c1).mono ?_)) | (go_at_call 150; (with_reducible refine (covers_calls x _ c' 4449 4469 _ _ c2).mono ?_)) | (go_at_call 150; (with_reducible refine (covers_calls x _ c' 4520 4546 _ _ c3).mono ?_))); rintro e w1 ⟨rfl, hb1⟩; replace RB := RB.keep hb1; have RC := RB; obtain ⟨k0, k1, k2, k3, k4, k5, k6, k7⟩ := RC; replace HU := up_trans HU hb1)
  go_ret
  exact ⟨rfl, HU⟩
 ·clear hc
  go_enter Tryz.func115, Tryz.ntmps115
  go_wp2_with ((first | (go_at_call 149; (with_reducible refine (RFamily_calls x.kind _).mono ?_)) | (go_at_call 150; (with_reducible refine (covers_calls x _ c' 0 127 _ _ c0).mono ?_)) | (go_at_call 150; (with_reducible refine (covers_calls x _ c' 4352 4370 _ _ c1).mono ?_)) | (go_at_call 150; (with_reducible refine (covers_calls x _ c' 4449 4469 _ _ c2).mono ?_)) | (go_at_call 150; (with_reducible refine (covers_calls x _ c' 4520 4546 _ _ c3).mono ?_)) | (go_at_call 150; (with_reducible refine (covers_calls x _ c' 44032 55203 _ _ c4).mono ?_))); rintro e w1 ⟨rfl, hb1⟩; replace RB := RB.keep hb1; have RC := RB; obtain ⟨k0, k1, k2, k3, k4, k5, k6, k7⟩ := RC; replace HU := up_trans HU hb1)
  go_ret
  exact ⟨rfl, HU⟩) : p := h
theorem mrrecord_5 {p : Prop} (h : p := by
 have hw := wrongE_base (T := T) hff (of_decide_eq_true (hcv ▸ c0))
 rw [recordE_wrong hx (by rw [hw]; decide), hw] at hr
 subst hr
 clear hw
 clear hA hx hRx hlow hto hi hff hhg hcv hk
 go_enter Tryz.func115, Tryz.ntmps115
 go_wp2_with ((first | (go_at_call 149; (with_reducible refine (RFamily_calls x.kind _).mono ?_)) | (go_at_call 150; (with_reducible refine (covers_calls x _ c' 0 127 _ _ c0).mono ?_))); rintro e w1 ⟨rfl, hb1⟩; replace RB := RB.keep hb1; have RC := RB; obtain ⟨k0, k1, k2, k3, k4, k5, k6, k7⟩ := RC; replace HU := up_trans HU hb1)
 go_ret
 exact ⟨rfl, HU⟩) : p := h
theorem record_6 (ad : Addr) (c : Nat) (T : List Rec) (i : Nat) (x : Rec) (r : Int) (w : World) (hA : Asked w (some ad) T) (hx : T[i]? = some x) (hk : x.kind = 6) (hr : recordE T i = r) :
 Calls Tryz.prog 115 #[.slice (some ad) T.length c, .int .i64 i] w fun e w' => e = .returned (.int .i64 r) ∧ Up w w' := by
 have hu96 := Tryz.underlying113
 have hi : i < T.length := (List.getElem?_eq_some_iff.1 hx).1
 have hi4 : i ≤ 4096 := by have := hA.len; omega
 have hRx : Right x := hA.right x (List.mem_of_getElem? hx)
 obtain ⟨ad0, hA0, A', c', hrec, hto⟩ := hA.tab i x hx
 cases hA0
 have hlow := hRx.low
 have p1 : 0 ≤ (i : Int) := by omega
 have p2 : (i : Int) < (T.length : Int) := by omega
 have p3 : 0 ≤ x.lo := hlow.1
 have p4 : x.lo ≤ 1114111 := by omega
 have RL : Az (-2147483648 ≤ x.lo ∧ x.lo ≤ 2147483647) := ⟨by omega⟩
 have HX := Az.mk hx
 have HA := Az.mk hA
 obtain ⟨g0, g1, g2, g3, g4, g5, g6, g7⟩ := hrec
 have RB := recBox_new w x A' c'
 have HU := up_alloc (up_refl w) (recO x A' c')
 have f2 : (fam x.kind == 2) = true := by rw [hk]; rfl
 have f2' : (fam x.kind != 2) = false := by rw [hk]; rfl
 have f3 : (fam x.kind == 3) = false := by rw [hk]; rfl
 have f3' : (fam x.kind != 3) = true := by rw [hk]; rfl
 have e7 : (x.kind == 7) = false := by rw [hk]; rfl
 have hff : fam x.kind = 2 ∨ fam x.kind = 3 := by rw [hk]; decide
 have hcv : coversB x 0 127 = decide (x.lo < 128) := by
  unfold coversB
  rw [Bool.eq_iff_iff]
  simp
  omega
 have hhg : hangulB x = ((coversB x 4352 4370 || coversB x 4449 4469 || coversB x 4520 4546 || coversB x 44032 55203) || false) := by
  unfold hangulB
  rw [dFz (by omega), Bool.false_and]
 cases c0 : coversB x 0 127 with
 | true =>
   exact mrrecord_5
 | false =>
   have hlo : ¬ x.lo < 128 := of_decide_eq_false (hcv ▸ c0)
   cases hc : (coversB x 4352 4370 || coversB x 4449 4469 || coversB x 4520 4546 || coversB x 44032 55203) with
   | true =>
     exact mrrecord_1
   | false =>
     obtain ⟨c1, c2, c3, c4⟩ := covers_no hc
     rw [hc, Bool.false_or] at hhg
     clear hc
     rw [recordE_ok hx (wrongE_class (by rw [hk]; decide) hlo hhg) (by omega)] at hr
     subst hr
     clear hlo
     clear hA hx hRx hlow hto hi hff hhg hcv hk
     go_enter Tryz.func115, Tryz.ntmps115
     go_wp2_with ((first | (go_at_call 149; (with_reducible refine (RFamily_calls x.kind _).mono ?_)) | (go_at_call 150; (with_reducible refine (covers_calls x _ c' 0 127 _ _ c0).mono ?_)) | (go_at_call 150; (with_reducible refine (covers_calls x _ c' 4352 4370 _ _ c1).mono ?_)) | (go_at_call 150; (with_reducible refine (covers_calls x _ c' 4449 4469 _ _ c2).mono ?_)) | (go_at_call 150; (with_reducible refine (covers_calls x _ c' 4520 4546 _ _ c3).mono ?_)) | (go_at_call 150; (with_reducible refine (covers_calls x _ c' 44032 55203 _ _ c4).mono ?_))); rintro e w1 ⟨rfl, hb1⟩; replace RB := RB.keep hb1; have RC := RB; obtain ⟨k0, k1, k2, k3, k4, k5, k6, k7⟩ := RC; replace HU := up_trans HU hb1)
     go_ret
     exact ⟨rfl, HU⟩
theorem mrrecord_3 {p : Prop} (h : p := by
 clear hA hx hRx hlow hto hi hff hhg hcv hk
 go_enter Tryz.func115, Tryz.ntmps115
 go_wp2_with (first | (go_at_call 149; (with_reducible refine (RFamily_calls x.kind _).mono ?_); rintro e w1 ⟨rfl, hb1⟩; replace RB := RB.keep hb1; have RC := RB; obtain ⟨k0, k1, k2, k3, k4, k5, k6, k7⟩ := RC; replace HU := up_trans HU hb1) | (go_at_call 150; (with_reducible refine (covers_calls x _ c' 0 127 _ _ c0).mono ?_); rintro e w2 ⟨rfl, hb2⟩; replace RB := RB.keep hb2; have RC := RB; obtain ⟨k0, k1, k2, k3, k4, k5, k6, k7⟩ := RC; replace HU := up_trans HU hb2) | (go_at_call 150; (with_reducible refine (covers_calls x _ c' 4352 4370 _ _ c1).mono ?_); rintro e w3 ⟨rfl, hb3⟩; replace RB := RB.keep hb3; have RC := RB; obtain ⟨k0, k1, k2, k3, k4, k5, k6, k7⟩ := RC; replace HU := up_trans HU hb3) | (go_at_call 150; (with_reducible refine (covers_calls x _ c' 4449 4469 _ _ c2).mono ?_); rintro e w4 ⟨rfl, hb4⟩; replace RB := RB.keep hb4; have RC := RB; obtain ⟨k0, k1, k2, k3, k4, k5, k6, k7⟩ := RC; replace HU := up_trans HU hb4) | (go_at_call 150; (with_reducible refine (covers_calls x _ c' 4520 4546 _ _ c3).mono ?_); rintro e w5 ⟨rfl, hb5⟩; replace RB := RB.keep hb5; have RC := RB; obtain ⟨k0, k1, k2, k3, k4, k5, k6, k7⟩ := RC; replace HU := up_trans HU hb5) | (go_at_call 150; (with_reducible refine (covers_calls x _ c' 44032 55203 _ _ c4).mono ?_); rintro e w6 ⟨rfl, hb6⟩; replace RB := RB.keep hb6; have RC := RB; obtain ⟨k0, k1, k2, k3, k4, k5, k6, k7⟩ := RC; replace HU := up_trans HU hb6) | (go_at_call 81; have hfc := RFull_calls (some ad) c T x.lo _ (HA.out.up HU).tab HA.out.right HA.out.wf HA.out.len RL.out.1 RL.out.2; rw [HFU.out] at hfc; (with_reducible refine (hfc).mono ?_); rintro e w11 ⟨v11, rfl, hown11, hb11, hl11⟩; clear hfc; replace RB := RB.keep hb11; have RC := RB; obtain ⟨k0, k1, k2, k3, k4, k5, k6, k7⟩ := RC; replace HU := up_trans HU hb11; obtain ⟨Ax, cx, rfl, hAx, _⟩ := own_ints hown11; have HAX := Az.mk hAx; clear hAx hown11 hl11) | (go_at_call 155; (with_reducible refine (RFalls_calls (some ad) c T Ax cx l _ _ (HA.out.up HU) HAX.out HLR.out HLL.out hfl).mono ?_); rintro e w12 ⟨rfl, hb12⟩; replace RB := RB.keep hb12; have RC := RB; obtain ⟨k0, k1, k2, k3, k4, k5, k6, k7⟩ := RC; replace HU := up_trans HU hb12))
 go_ret
 exact ⟨rfl, HU⟩) : p := h
theorem record_8 (ad : Addr) (c : Nat) (T : List Rec) (i : Nat) (x : Rec) (r : Int) (w : World) (hA : Asked w (some ad) T) (hx : T[i]? = some x) (hk : x.kind = 8) (hr : recordE T i = r) :
 Calls Tryz.prog 115 #[.slice (some ad) T.length c, .int .i64 i] w fun e w' => e = .returned (.int .i64 r) ∧ Up w w' := by
 have hu96 := Tryz.underlying113
 have hi : i < T.length := (List.getElem?_eq_some_iff.1 hx).1
 have hi4 : i ≤ 4096 := by have := hA.len; omega
 have hRx : Right x := hA.right x (List.mem_of_getElem? hx)
 obtain ⟨ad0, hA0, A', c', hrec, hto⟩ := hA.tab i x hx
 cases hA0
 have hlow := hRx.low
 have p1 : 0 ≤ (i : Int) := by omega
 have p2 : (i : Int) < (T.length : Int) := by omega
 have p3 : 0 ≤ x.lo := hlow.1
 have p4 : x.lo ≤ 1114111 := by omega
 have RL : Az (-2147483648 ≤ x.lo ∧ x.lo ≤ 2147483647) := ⟨by omega⟩
 have HX := Az.mk hx
 have HA := Az.mk hA
 obtain ⟨g0, g1, g2, g3, g4, g5, g6, g7⟩ := hrec
 have RB := recBox_new w x A' c'
 have HU := up_alloc (up_refl w) (recO x A' c')
 have f2 : (fam x.kind == 2) = false := by rw [hk]; rfl
 have f2' : (fam x.kind != 2) = true := by rw [hk]; rfl
 have f3 : (fam x.kind == 3) = true := by rw [hk]; rfl
 have f3' : (fam x.kind != 3) = false := by rw [hk]; rfl
 have e7 : (x.kind == 7) = false := by rw [hk]; rfl
 have hff : fam x.kind = 2 ∨ fam x.kind = 3 := by rw [hk]; decide
 have hcv : coversB x 0 127 = decide (x.lo < 128) := by
  unfold coversB
  rw [Bool.eq_iff_iff]
  simp
  omega
 have hhg : hangulB x = ((coversB x 4352 4370 || coversB x 4449 4469 || coversB x 4520 4546 || coversB x 44032 55203) || false) := by
  unfold hangulB
  rw [dFz (by omega), Bool.false_and]
 cases c0 : coversB x 0 127 with
 | true =>
   exact mrrecord_5
 | false =>
   have hlo : ¬ x.lo < 128 := of_decide_eq_false (hcv ▸ c0)
   cases hc : (coversB x 4352 4370 || coversB x 4449 4469 || coversB x 4520 4546 || coversB x 44032 55203) with
   | true =>
     exact mrrecord_1
   | false =>
     obtain ⟨c1, c2, c3, c4⟩ := covers_no hc
     rw [hc, Bool.false_or] at hhg
     clear hc
     cases hfu : fullF T x.lo with
     | error n =>
       have HFU := Az.mk hfu
       have hn0 : n ≠ 0 := walkF_err hfu
       have hw := wrongE_err (T := T) (x := x) (by rw [hk]; decide) hlo hhg hfu
       rw [recordE_wrong hx (by rw [hw]; exact hn0), hw] at hr
       subst hr
       clear hw hlo
       have t1 : (n == 0) = false := bqf hn0
       have t2 : (n != 0) = true := bne_iff_ne.mpr hn0
       clear hfu hn0
       clear hA hx hRx hlow hto hi hff hhg hcv hk
       go_enter Tryz.func115, Tryz.ntmps115
       go_wp2_with (first | (go_at_call 149; (with_reducible refine (RFamily_calls x.kind _).mono ?_); rintro e w1 ⟨rfl, hb1⟩; replace RB := RB.keep hb1; have RC := RB; obtain ⟨k0, k1, k2, k3, k4, k5, k6, k7⟩ := RC; replace HU := up_trans HU hb1) | (go_at_call 150; (with_reducible refine (covers_calls x _ c' 0 127 _ _ c0).mono ?_); rintro e w2 ⟨rfl, hb2⟩; replace RB := RB.keep hb2; have RC := RB; obtain ⟨k0, k1, k2, k3, k4, k5, k6, k7⟩ := RC; replace HU := up_trans HU hb2) | (go_at_call 150; (with_reducible refine (covers_calls x _ c' 4352 4370 _ _ c1).mono ?_); rintro e w3 ⟨rfl, hb3⟩; replace RB := RB.keep hb3; have RC := RB; obtain ⟨k0, k1, k2, k3, k4, k5, k6, k7⟩ := RC; replace HU := up_trans HU hb3) | (go_at_call 150; (with_reducible refine (covers_calls x _ c' 4449 4469 _ _ c2).mono ?_); rintro e w4 ⟨rfl, hb4⟩; replace RB := RB.keep hb4; have RC := RB; obtain ⟨k0, k1, k2, k3, k4, k5, k6, k7⟩ := RC; replace HU := up_trans HU hb4) | (go_at_call 150; (with_reducible refine (covers_calls x _ c' 4520 4546 _ _ c3).mono ?_); rintro e w5 ⟨rfl, hb5⟩; replace RB := RB.keep hb5; have RC := RB; obtain ⟨k0, k1, k2, k3, k4, k5, k6, k7⟩ := RC; replace HU := up_trans HU hb5) | (go_at_call 150; (with_reducible refine (covers_calls x _ c' 44032 55203 _ _ c4).mono ?_); rintro e w6 ⟨rfl, hb6⟩; replace RB := RB.keep hb6; have RC := RB; obtain ⟨k0, k1, k2, k3, k4, k5, k6, k7⟩ := RC; replace HU := up_trans HU hb6) | (go_at_call 81; have hfc := RFull_calls (some ad) c T x.lo _ (HA.out.up HU).tab HA.out.right HA.out.wf HA.out.len RL.out.1 RL.out.2; rw [HFU.out] at hfc; (with_reducible refine (hfc).mono ?_); rintro e w11 ⟨rfl, hb11, hn11⟩; clear hfc; replace RB := RB.keep hb11; have RC := RB; obtain ⟨k0, k1, k2, k3, k4, k5, k6, k7⟩ := RC; replace HU := up_trans HU hb11))
       go_ret
       exact ⟨rfl, HU⟩
     | ok l =>
       have HFU := Az.mk hfu
       have HLR : Az (InI32 l) := ⟨fullF_range hA.wf RL.out.1 RL.out.2 hfu⟩
       have HLL : Az (l.length ≤ 35184372087808) := ⟨by have := fullF_len hfu; omega⟩
       cases hfl : fallsB T l with
       | true =>
         have hw := wrongE_falls (T := T) (x := x) (by rw [hk]; decide) hlo hhg hfu hfl
         rw [recordE_wrong hx (by rw [hw]; decide), hw] at hr
         subst hr
         clear hw hlo hfu
         exact mrrecord_3
       | false =>
         rw [recordE_ok hx (wrongE_ok (by rw [hk]; decide) hlo hhg hfu hfl (fun h => by omega)) (by omega)] at hr
         subst hr
         clear hfu hlo
         exact mrrecord_3
theorem mrrecord_2 {p : Prop} (h : p := by
 subst hr2
 clear hr hfu hlo
 clear hA hx hRx hlow hto hi hff hhg hcv hab va vb hav hlen hk
 rcases hj12 with j1 | ⟨j1, j2⟩ <;> rcases hj3 with s1 | ⟨s1, m1, mm⟩ | ⟨s1, m1, mm, j3⟩
 all_goals
  go_enter Tryz.func115, Tryz.ntmps115
  go_wp2_with (first | (go_at_call 149; (with_reducible refine (RFamily_calls x.kind _).mono ?_); rintro e w1 ⟨rfl, hb1⟩; replace RB := RB.keep hb1; have RC := RB; obtain ⟨k0, k1, k2, k3, k4, k5, k6, k7⟩ := RC; replace HU := up_trans HU hb1; replace hc0 := up_cell hb1 hc0; replace hc1 := up_cell hb1 hc1) | (go_at_call 150; (with_reducible refine (covers_calls x _ c' 0 127 _ _ c0).mono ?_); rintro e w2 ⟨rfl, hb2⟩; replace RB := RB.keep hb2; have RC := RB; obtain ⟨k0, k1, k2, k3, k4, k5, k6, k7⟩ := RC; replace HU := up_trans HU hb2; replace hc0 := up_cell hb2 hc0; replace hc1 := up_cell hb2 hc1) | (go_at_call 150; (with_reducible refine (covers_calls x _ c' 4352 4370 _ _ c1).mono ?_); rintro e w3 ⟨rfl, hb3⟩; replace RB := RB.keep hb3; have RC := RB; obtain ⟨k0, k1, k2, k3, k4, k5, k6, k7⟩ := RC; replace HU := up_trans HU hb3; replace hc0 := up_cell hb3 hc0; replace hc1 := up_cell hb3 hc1) | (go_at_call 150; (with_reducible refine (covers_calls x _ c' 4449 4469 _ _ c2).mono ?_); rintro e w4 ⟨rfl, hb4⟩; replace RB := RB.keep hb4; have RC := RB; obtain ⟨k0, k1, k2, k3, k4, k5, k6, k7⟩ := RC; replace HU := up_trans HU hb4; replace hc0 := up_cell hb4 hc0; replace hc1 := up_cell hb4 hc1) | (go_at_call 150; (with_reducible refine (covers_calls x _ c' 4520 4546 _ _ c3).mono ?_); rintro e w5 ⟨rfl, hb5⟩; replace RB := RB.keep hb5; have RC := RB; obtain ⟨k0, k1, k2, k3, k4, k5, k6, k7⟩ := RC; replace HU := up_trans HU hb5; replace hc0 := up_cell hb5 hc0; replace hc1 := up_cell hb5 hc1) | (go_at_call 150; (with_reducible refine (covers_calls x _ c' 44032 55203 _ _ c4).mono ?_); rintro e w6 ⟨rfl, hb6⟩; replace RB := RB.keep hb6; have RC := RB; obtain ⟨k0, k1, k2, k3, k4, k5, k6, k7⟩ := RC; replace HU := up_trans HU hb6; replace hc0 := up_cell hb6 hc0; replace hc1 := up_cell hb6 hc1) | (go_at_call 151; (with_reducible refine (Rjl_calls a _ _ j1).mono ?_); rintro e w7 ⟨rfl, rfl⟩) | (go_at_call 152; (with_reducible refine (Rjv_calls b _ _ j2).mono ?_); rintro e w8 ⟨rfl, rfl⟩) | (go_at_call 153; (with_reducible refine (Syllable_calls a _ _ s1).mono ?_); rintro e w9 ⟨rfl, rfl⟩) | (go_at_call 154; (with_reducible refine (Rjt_calls b _ _ j3).mono ?_); rintro e w10 ⟨rfl, rfl⟩) | (go_at_call 81; have hfc := RFull_calls (some ad) c T x.lo _ (HA.out.up HU).tab HA.out.right HA.out.wf HA.out.len RL.out.1 RL.out.2; rw [HFU.out] at hfc; (with_reducible refine (hfc).mono ?_); rintro e w11 ⟨v11, rfl, hown11, hb11, hl11⟩; clear hfc; replace RB := RB.keep hb11; have RC := RB; obtain ⟨k0, k1, k2, k3, k4, k5, k6, k7⟩ := RC; replace HU := up_trans HU hb11; obtain ⟨Ax, cx, rfl, hAx, _⟩ := own_ints hown11; have HAX := Az.mk hAx; clear hAx hown11 hl11) | (go_at_call 155; (with_reducible refine (RFalls_calls (some ad) c T Ax cx l _ _ (HA.out.up HU) HAX.out HLR.out HLL.out hfl).mono ?_); rintro e w12 ⟨rfl, hb12⟩; replace RB := RB.keep hb12; have RC := RB; obtain ⟨k0, k1, k2, k3, k4, k5, k6, k7⟩ := RC; replace HU := up_trans HU hb12) | (go_at_call 156; (with_reducible refine (RPair_calls ad c T i x _ _ (HA.out.up HU) HX.out HK.out hpp).mono ?_); rintro e w13 ⟨rfl, hb13⟩; replace HU := up_trans HU hb13))
  go_ret
  exact ⟨rfl, HU⟩) : p := h
theorem mrrecord_4 {p : Prop} (h : p := by
 go_wp2_with (first | (go_at_call 149; (with_reducible refine (RFamily_calls x.kind _).mono ?_); rintro e w1 ⟨rfl, hb1⟩; replace RB := RB.keep hb1; have RC := RB; obtain ⟨k0, k1, k2, k3, k4, k5, k6, k7⟩ := RC; replace HU := up_trans HU hb1; replace hc0 := up_cell hb1 hc0; replace hc1 := up_cell hb1 hc1) | (go_at_call 150; (with_reducible refine (covers_calls x _ c' 0 127 _ _ c0).mono ?_); rintro e w2 ⟨rfl, hb2⟩; replace RB := RB.keep hb2; have RC := RB; obtain ⟨k0, k1, k2, k3, k4, k5, k6, k7⟩ := RC; replace HU := up_trans HU hb2; replace hc0 := up_cell hb2 hc0; replace hc1 := up_cell hb2 hc1) | (go_at_call 150; (with_reducible refine (covers_calls x _ c' 4352 4370 _ _ c1).mono ?_); rintro e w3 ⟨rfl, hb3⟩; replace RB := RB.keep hb3; have RC := RB; obtain ⟨k0, k1, k2, k3, k4, k5, k6, k7⟩ := RC; replace HU := up_trans HU hb3; replace hc0 := up_cell hb3 hc0; replace hc1 := up_cell hb3 hc1) | (go_at_call 150; (with_reducible refine (covers_calls x _ c' 4449 4469 _ _ c2).mono ?_); rintro e w4 ⟨rfl, hb4⟩; replace RB := RB.keep hb4; have RC := RB; obtain ⟨k0, k1, k2, k3, k4, k5, k6, k7⟩ := RC; replace HU := up_trans HU hb4; replace hc0 := up_cell hb4 hc0; replace hc1 := up_cell hb4 hc1) | (go_at_call 150; (with_reducible refine (covers_calls x _ c' 4520 4546 _ _ c3).mono ?_); rintro e w5 ⟨rfl, hb5⟩; replace RB := RB.keep hb5; have RC := RB; obtain ⟨k0, k1, k2, k3, k4, k5, k6, k7⟩ := RC; replace HU := up_trans HU hb5; replace hc0 := up_cell hb5 hc0; replace hc1 := up_cell hb5 hc1) | (go_at_call 150; (with_reducible refine (covers_calls x _ c' 44032 55203 _ _ c4).mono ?_); rintro e w6 ⟨rfl, hb6⟩; replace RB := RB.keep hb6; have RC := RB; obtain ⟨k0, k1, k2, k3, k4, k5, k6, k7⟩ := RC; replace HU := up_trans HU hb6; replace hc0 := up_cell hb6 hc0; replace hc1 := up_cell hb6 hc1) | (go_at_call 151; (with_reducible refine (Rjl_calls a _ _ j1).mono ?_); rintro e w7 ⟨rfl, rfl⟩) | (go_at_call 152; (with_reducible refine (Rjv_calls b _ _ j2).mono ?_); rintro e w8 ⟨rfl, rfl⟩) | (go_at_call 153; (with_reducible refine (Syllable_calls a _ _ s1).mono ?_); rintro e w9 ⟨rfl, rfl⟩) | (go_at_call 154; (with_reducible refine (Rjt_calls b _ _ j3).mono ?_); rintro e w10 ⟨rfl, rfl⟩))
 go_ret
 exact ⟨rfl, HU⟩) : p := h
theorem record_7 (ad : Addr) (c : Nat) (T : List Rec) (i : Nat) (x : Rec) (r : Int) (w : World) (hA : Asked w (some ad) T) (hx : T[i]? = some x) (hk : x.kind = 7) (hr : recordE T i = r) :
 Calls Tryz.prog 115 #[.slice (some ad) T.length c, .int .i64 i] w fun e w' => e = .returned (.int .i64 r) ∧ Up w w' := by
 have hu96 := Tryz.underlying113
 have hi : i < T.length := (List.getElem?_eq_some_iff.1 hx).1
 have hi4 : i ≤ 4096 := by have := hA.len; omega
 have hRx : Right x := hA.right x (List.mem_of_getElem? hx)
 obtain ⟨ad0, hA0, A', c', hrec, hto⟩ := hA.tab i x hx
 cases hA0
 have hlow := hRx.low
 have p1 : 0 ≤ (i : Int) := by omega
 have p2 : (i : Int) < (T.length : Int) := by omega
 have p3 : 0 ≤ x.lo := hlow.1
 have p4 : x.lo ≤ 1114111 := by omega
 have RL : Az (-2147483648 ≤ x.lo ∧ x.lo ≤ 2147483647) := ⟨by omega⟩
 have HX := Az.mk hx
 have HA := Az.mk hA
 obtain ⟨g0, g1, g2, g3, g4, g5, g6, g7⟩ := hrec
 have RB := recBox_new w x A' c'
 have HU := up_alloc (up_refl w) (recO x A' c')
 have f2 : (fam x.kind == 2) = false := by rw [hk]; rfl
 have f2' : (fam x.kind != 2) = true := by rw [hk]; rfl
 have f3 : (fam x.kind == 3) = true := by rw [hk]; rfl
 have f3' : (fam x.kind != 3) = false := by rw [hk]; rfl
 have e7 : (x.kind == 7) = true := by rw [hk]; rfl
 obtain ⟨a, b, hab, va, vb, hlh, hvl⟩ := hRx.decomp hk
 clear hlh hvl
 obtain ⟨ad2, hA2, hc0⟩ := hto 0 (.int .i32 a) (by rw [hab]; rfl)
 obtain ⟨ad3, hA3, hc1⟩ := hto 1 (.int .i32 b) (by rw [hab]; rfl)
 rw [hA2] at hA3
 cases hA3
 subst hA2
 replace hc0 : w.cell? ad2 = some (.int .i32 a) := hc0
 replace hc1 : w.cell? ⟨ad2.block, ad2.off + 1, none⟩ = some (.int .i32 b) := hc1
 have RDA : Az (rd x.to 0 = a) := ⟨by rw [hab]; rfl⟩
 have RDB : Az (rd x.to 1 = b) := ⟨by rw [hab]; rfl⟩
 have hlen : x.to.length = 2 := by rw [hab]; rfl
 replace hc0 := up_cell HU hc0
 replace hc1 := up_cell HU hc1
 have hav := (validB_iff a).1 va
 have q1 : 0 ≤ a := hav.1
 have q2 : a ≤ 1114111 := hav.2.1
 have l0 : (0 : Int) < (x.to.length : Int) := by omega
 have l1 : (1 : Int) < (x.to.length : Int) := by omega
 have l2 : 0 < x.to.length := by omega
 have l3 : 1 < x.to.length := by omega
 have HK := Az.mk hk
 have HLEN := Az.mk hlen
 have hff : fam x.kind = 2 ∨ fam x.kind = 3 := by rw [hk]; decide
 have hcv : coversB x 0 127 = decide (x.lo < 128) := by
  unfold coversB
  rw [Bool.eq_iff_iff]
  simp
  omega
 have hhg : hangulB x = ((coversB x 4352 4370 || coversB x 4449 4469 || coversB x 4520 4546 || coversB x 44032 55203) || (jl a && jv b || syl a && decide ((a - 44032).tmod 28 = 0) && jt b)) := by
  unfold hangulB
  rw [dTz hk, Bool.true_and, RDA.out, RDB.out, syl_tmod]
 cases c0 : coversB x 0 127 with
 | true =>
   have hw := wrongE_base (T := T) hff (of_decide_eq_true (hcv ▸ c0))
   rw [recordE_wrong hx (by rw [hw]; decide), hw] at hr
   subst hr
   clear hw
   clear hA hx hRx hlow hto hi hff hhg hcv hab va vb hav hlen hk
   go_enter Tryz.func115, Tryz.ntmps115
   go_wp2_with ((first | (go_at_call 149; (with_reducible refine (RFamily_calls x.kind _).mono ?_)) | (go_at_call 150; (with_reducible refine (covers_calls x _ c' 0 127 _ _ c0).mono ?_))); rintro e w1 ⟨rfl, hb1⟩; replace RB := RB.keep hb1; have RC := RB; obtain ⟨k0, k1, k2, k3, k4, k5, k6, k7⟩ := RC; replace HU := up_trans HU hb1; replace hc0 := up_cell hb1 hc0; replace hc1 := up_cell hb1 hc1)
   go_ret
   exact ⟨rfl, HU⟩
 | false =>
   have hlo : ¬ x.lo < 128 := of_decide_eq_false (hcv ▸ c0)
   cases hc : (coversB x 4352 4370 || coversB x 4449 4469 || coversB x 4520 4546 || coversB x 44032 55203) with
   | true =>
     have hw := wrongE_hangul (T := T) hff hlo (by rw [hhg, hc, Bool.true_or])
     rw [recordE_wrong hx (by rw [hw]; decide), hw] at hr
     subst hr
     clear hw hlo
     clear hA hx hRx hlow hto hi hff hhg hcv hab va vb hav hlen hk
     rcases covers_yes hc with c1 | ⟨c1, c2⟩ | ⟨c1, c2, c3⟩ | ⟨c1, c2, c3, c4⟩
     ·clear hc
      go_enter Tryz.func115, Tryz.ntmps115
      go_wp2_with ((first | (go_at_call 149; (with_reducible refine (RFamily_calls x.kind _).mono ?_)) | (go_at_call 150; (with_reducible refine (covers_calls x _ c' 0 127 _ _ c0).mono ?_)) | (go_at_call 150; (with_reducible refine (covers_calls x _ c' 4352 4370 _ _ c1).mono ?_))); rintro e w1 ⟨rfl, hb1⟩; replace RB := RB.keep hb1; have RC := RB; obtain ⟨k0, k1, k2, k3, k4, k5, k6, k7⟩ := RC; replace HU := up_trans HU hb1; replace hc0 := up_cell hb1 hc0; replace hc1 := up_cell hb1 hc1)
      go_ret
      exact ⟨rfl, HU⟩
     ·clear hc
      go_enter Tryz.func115, Tryz.ntmps115
      go_wp2_with ((first | (go_at_call 149; (with_reducible refine (RFamily_calls x.kind _).mono ?_)) | (go_at_call 150; (with_reducible refine (covers_calls x _ c' 0 127 _ _ c0).mono ?_)) | (go_at_call 150; (with_reducible refine (covers_calls x _ c' 4352 4370 _ _ c1).mono ?_)) | (go_at_call 150; (with_reducible refine (covers_calls x _ c' 4449 4469 _ _ c2).mono ?_))); rintro e w1 ⟨rfl, hb1⟩; replace RB := RB.keep hb1; have RC := RB; obtain ⟨k0, k1, k2, k3, k4, k5, k6, k7⟩ := RC; replace HU := up_trans HU hb1; replace hc0 := up_cell hb1 hc0; replace hc1 := up_cell hb1 hc1)
      go_ret
      exact ⟨rfl, HU⟩
     ·clear hc
      go_enter Tryz.func115, Tryz.ntmps115
      go_wp2_with ((first | (go_at_call 149; (with_reducible refine (RFamily_calls x.kind _).mono ?_)) | (go_at_call 150; (with_reducible refine (covers_calls x _ c' 0 127 _ _ c0).mono ?_)) | (go_at_call 150; (with_reducible refine (covers_calls x _ c' 4352 4370 _ _ c1).mono ?_)) | (go_at_call 150; (with_reducible refine (covers_calls x _ c' 4449 4469 _ _ c2).mono ?_)) | (go_at_call 150; (with_reducible refine (covers_calls x _ c' 4520 4546 _ _ c3).mono ?_))); rintro e w1 ⟨rfl, hb1⟩; replace RB := RB.keep hb1; have RC := RB; obtain ⟨k0, k1, k2, k3, k4, k5, k6, k7⟩ := RC; replace HU := up_trans HU hb1; replace hc0 := up_cell hb1 hc0; replace hc1 := up_cell hb1 hc1)
      go_ret
      exact ⟨rfl, HU⟩
     ·clear hc
      go_enter Tryz.func115, Tryz.ntmps115
      go_wp2_with ((first | (go_at_call 149; (with_reducible refine (RFamily_calls x.kind _).mono ?_)) | (go_at_call 150; (with_reducible refine (covers_calls x _ c' 0 127 _ _ c0).mono ?_)) | (go_at_call 150; (with_reducible refine (covers_calls x _ c' 4352 4370 _ _ c1).mono ?_)) | (go_at_call 150; (with_reducible refine (covers_calls x _ c' 4449 4469 _ _ c2).mono ?_)) | (go_at_call 150; (with_reducible refine (covers_calls x _ c' 4520 4546 _ _ c3).mono ?_)) | (go_at_call 150; (with_reducible refine (covers_calls x _ c' 44032 55203 _ _ c4).mono ?_))); rintro e w1 ⟨rfl, hb1⟩; replace RB := RB.keep hb1; have RC := RB; obtain ⟨k0, k1, k2, k3, k4, k5, k6, k7⟩ := RC; replace HU := up_trans HU hb1; replace hc0 := up_cell hb1 hc0; replace hc1 := up_cell hb1 hc1)
      go_ret
      exact ⟨rfl, HU⟩
   | false =>
     obtain ⟨c1, c2, c3, c4⟩ := covers_no hc
     rw [hc, Bool.false_or] at hhg
     clear hc
     cases hj : (jl a && jv b || syl a && decide ((a - 44032).tmod 28 = 0) && jt b) with
     | true =>
       have hw := wrongE_hangul (T := T) hff hlo (by rw [hhg]; exact hj)
       rw [recordE_wrong hx (by rw [hw]; decide), hw] at hr
       subst hr
       clear hw hlo
       clear hA hx hRx hlow hto hi hff hhg hcv hab va vb hav hlen hk
       rcases jamo_yes hj with ⟨j1, j2⟩ | ⟨j12, s1, m1, mm, j3⟩
       ·clear hj
        go_enter Tryz.func115, Tryz.ntmps115
        exact mrrecord_4
       ·clear hj
        rcases j12 with j1 | ⟨j1, j2⟩
        all_goals
         go_enter Tryz.func115, Tryz.ntmps115
         exact mrrecord_4
     | false =>
       obtain ⟨hj12, hj3⟩ := jamo_no hj
       rw [hj] at hhg
       clear hj
       cases hfu : fullF T x.lo with
       | error n =>
         have HFU := Az.mk hfu
         have hn0 : n ≠ 0 := walkF_err hfu
         have hw := wrongE_err (T := T) (x := x) (by rw [hk]; decide) hlo hhg hfu
         rw [recordE_wrong hx (by rw [hw]; exact hn0), hw] at hr
         subst hr
         clear hw hlo
         have t1 : (n == 0) = false := bqf hn0
         have t2 : (n != 0) = true := bne_iff_ne.mpr hn0
         clear hfu hn0
         clear hA hx hRx hlow hto hi hff hhg hcv hab va vb hav hlen hk
         rcases hj12 with j1 | ⟨j1, j2⟩ <;> rcases hj3 with s1 | ⟨s1, m1, mm⟩ | ⟨s1, m1, mm, j3⟩
         all_goals
          go_enter Tryz.func115, Tryz.ntmps115
          go_wp2_with (first | (go_at_call 149; (with_reducible refine (RFamily_calls x.kind _).mono ?_); rintro e w1 ⟨rfl, hb1⟩; replace RB := RB.keep hb1; have RC := RB; obtain ⟨k0, k1, k2, k3, k4, k5, k6, k7⟩ := RC; replace HU := up_trans HU hb1; replace hc0 := up_cell hb1 hc0; replace hc1 := up_cell hb1 hc1) | (go_at_call 150; (with_reducible refine (covers_calls x _ c' 0 127 _ _ c0).mono ?_); rintro e w2 ⟨rfl, hb2⟩; replace RB := RB.keep hb2; have RC := RB; obtain ⟨k0, k1, k2, k3, k4, k5, k6, k7⟩ := RC; replace HU := up_trans HU hb2; replace hc0 := up_cell hb2 hc0; replace hc1 := up_cell hb2 hc1) | (go_at_call 150; (with_reducible refine (covers_calls x _ c' 4352 4370 _ _ c1).mono ?_); rintro e w3 ⟨rfl, hb3⟩; replace RB := RB.keep hb3; have RC := RB; obtain ⟨k0, k1, k2, k3, k4, k5, k6, k7⟩ := RC; replace HU := up_trans HU hb3; replace hc0 := up_cell hb3 hc0; replace hc1 := up_cell hb3 hc1) | (go_at_call 150; (with_reducible refine (covers_calls x _ c' 4449 4469 _ _ c2).mono ?_); rintro e w4 ⟨rfl, hb4⟩; replace RB := RB.keep hb4; have RC := RB; obtain ⟨k0, k1, k2, k3, k4, k5, k6, k7⟩ := RC; replace HU := up_trans HU hb4; replace hc0 := up_cell hb4 hc0; replace hc1 := up_cell hb4 hc1) | (go_at_call 150; (with_reducible refine (covers_calls x _ c' 4520 4546 _ _ c3).mono ?_); rintro e w5 ⟨rfl, hb5⟩; replace RB := RB.keep hb5; have RC := RB; obtain ⟨k0, k1, k2, k3, k4, k5, k6, k7⟩ := RC; replace HU := up_trans HU hb5; replace hc0 := up_cell hb5 hc0; replace hc1 := up_cell hb5 hc1) | (go_at_call 150; (with_reducible refine (covers_calls x _ c' 44032 55203 _ _ c4).mono ?_); rintro e w6 ⟨rfl, hb6⟩; replace RB := RB.keep hb6; have RC := RB; obtain ⟨k0, k1, k2, k3, k4, k5, k6, k7⟩ := RC; replace HU := up_trans HU hb6; replace hc0 := up_cell hb6 hc0; replace hc1 := up_cell hb6 hc1) | (go_at_call 151; (with_reducible refine (Rjl_calls a _ _ j1).mono ?_); rintro e w7 ⟨rfl, rfl⟩) | (go_at_call 152; (with_reducible refine (Rjv_calls b _ _ j2).mono ?_); rintro e w8 ⟨rfl, rfl⟩) | (go_at_call 153; (with_reducible refine (Syllable_calls a _ _ s1).mono ?_); rintro e w9 ⟨rfl, rfl⟩) | (go_at_call 154; (with_reducible refine (Rjt_calls b _ _ j3).mono ?_); rintro e w10 ⟨rfl, rfl⟩) | (go_at_call 81; have hfc := RFull_calls (some ad) c T x.lo _ (HA.out.up HU).tab HA.out.right HA.out.wf HA.out.len RL.out.1 RL.out.2; rw [HFU.out] at hfc; (with_reducible refine (hfc).mono ?_); rintro e w11 ⟨rfl, hb11, hn11⟩; clear hfc; replace RB := RB.keep hb11; have RC := RB; obtain ⟨k0, k1, k2, k3, k4, k5, k6, k7⟩ := RC; replace HU := up_trans HU hb11))
          go_ret
          exact ⟨rfl, HU⟩
       | ok l =>
         have HFU := Az.mk hfu
         have HLR : Az (InI32 l) := ⟨fullF_range hA.wf RL.out.1 RL.out.2 hfu⟩
         have HLL : Az (l.length ≤ 35184372087808) := ⟨by have := fullF_len hfu; omega⟩
         cases hfl : fallsB T l with
         | true =>
           have hw := wrongE_falls (T := T) (x := x) (by rw [hk]; decide) hlo hhg hfu hfl
           rw [recordE_wrong hx (by rw [hw]; decide), hw] at hr
           subst hr
           clear hw hlo hfu
           clear hA hx hRx hlow hto hi hff hhg hcv hab va vb hav hlen hk
           rcases hj12 with j1 | ⟨j1, j2⟩ <;> rcases hj3 with s1 | ⟨s1, m1, mm⟩ | ⟨s1, m1, mm, j3⟩
           all_goals
            go_enter Tryz.func115, Tryz.ntmps115
            go_wp2_with (first | (go_at_call 149; (with_reducible refine (RFamily_calls x.kind _).mono ?_); rintro e w1 ⟨rfl, hb1⟩; replace RB := RB.keep hb1; have RC := RB; obtain ⟨k0, k1, k2, k3, k4, k5, k6, k7⟩ := RC; replace HU := up_trans HU hb1; replace hc0 := up_cell hb1 hc0; replace hc1 := up_cell hb1 hc1) | (go_at_call 150; (with_reducible refine (covers_calls x _ c' 0 127 _ _ c0).mono ?_); rintro e w2 ⟨rfl, hb2⟩; replace RB := RB.keep hb2; have RC := RB; obtain ⟨k0, k1, k2, k3, k4, k5, k6, k7⟩ := RC; replace HU := up_trans HU hb2; replace hc0 := up_cell hb2 hc0; replace hc1 := up_cell hb2 hc1) | (go_at_call 150; (with_reducible refine (covers_calls x _ c' 4352 4370 _ _ c1).mono ?_); rintro e w3 ⟨rfl, hb3⟩; replace RB := RB.keep hb3; have RC := RB; obtain ⟨k0, k1, k2, k3, k4, k5, k6, k7⟩ := RC; replace HU := up_trans HU hb3; replace hc0 := up_cell hb3 hc0; replace hc1 := up_cell hb3 hc1) | (go_at_call 150; (with_reducible refine (covers_calls x _ c' 4449 4469 _ _ c2).mono ?_); rintro e w4 ⟨rfl, hb4⟩; replace RB := RB.keep hb4; have RC := RB; obtain ⟨k0, k1, k2, k3, k4, k5, k6, k7⟩ := RC; replace HU := up_trans HU hb4; replace hc0 := up_cell hb4 hc0; replace hc1 := up_cell hb4 hc1) | (go_at_call 150; (with_reducible refine (covers_calls x _ c' 4520 4546 _ _ c3).mono ?_); rintro e w5 ⟨rfl, hb5⟩; replace RB := RB.keep hb5; have RC := RB; obtain ⟨k0, k1, k2, k3, k4, k5, k6, k7⟩ := RC; replace HU := up_trans HU hb5; replace hc0 := up_cell hb5 hc0; replace hc1 := up_cell hb5 hc1) | (go_at_call 150; (with_reducible refine (covers_calls x _ c' 44032 55203 _ _ c4).mono ?_); rintro e w6 ⟨rfl, hb6⟩; replace RB := RB.keep hb6; have RC := RB; obtain ⟨k0, k1, k2, k3, k4, k5, k6, k7⟩ := RC; replace HU := up_trans HU hb6; replace hc0 := up_cell hb6 hc0; replace hc1 := up_cell hb6 hc1) | (go_at_call 151; (with_reducible refine (Rjl_calls a _ _ j1).mono ?_); rintro e w7 ⟨rfl, rfl⟩) | (go_at_call 152; (with_reducible refine (Rjv_calls b _ _ j2).mono ?_); rintro e w8 ⟨rfl, rfl⟩) | (go_at_call 153; (with_reducible refine (Syllable_calls a _ _ s1).mono ?_); rintro e w9 ⟨rfl, rfl⟩) | (go_at_call 154; (with_reducible refine (Rjt_calls b _ _ j3).mono ?_); rintro e w10 ⟨rfl, rfl⟩) | (go_at_call 81; have hfc := RFull_calls (some ad) c T x.lo _ (HA.out.up HU).tab HA.out.right HA.out.wf HA.out.len RL.out.1 RL.out.2; rw [HFU.out] at hfc; (with_reducible refine (hfc).mono ?_); rintro e w11 ⟨v11, rfl, hown11, hb11, hl11⟩; clear hfc; replace RB := RB.keep hb11; have RC := RB; obtain ⟨k0, k1, k2, k3, k4, k5, k6, k7⟩ := RC; replace HU := up_trans HU hb11; obtain ⟨Ax, cx, rfl, hAx, _⟩ := own_ints hown11; have HAX := Az.mk hAx; clear hAx hown11 hl11) | (go_at_call 155; (with_reducible refine (RFalls_calls (some ad) c T Ax cx l _ _ (HA.out.up HU) HAX.out HLR.out HLL.out hfl).mono ?_); rintro e w12 ⟨rfl, hb12⟩; replace RB := RB.keep hb12; have RC := RB; obtain ⟨k0, k1, k2, k3, k4, k5, k6, k7⟩ := RC; replace HU := up_trans HU hb12))
            go_ret
            exact ⟨rfl, HU⟩
         | false =>
           cases hpp : (pairsB T x && !aheadB T (rd x.to 0) (rd x.to 1) i) with
           | true =>
             rw [recordE_pair hx (by rw [hk]; decide) hlo hhg hfu hfl hk hpp] at hr
             have hr2 : (0 : Int) = r := hr
             exact mrrecord_2
           | false =>
             rw [recordE_pair hx (by rw [hk]; decide) hlo hhg hfu hfl hk hpp] at hr
             have hr2 : (74 : Int) = r := hr
             exact mrrecord_2
theorem RRecord_calls (ad : Addr) (c : Nat) (T : List Rec) (i : Nat) (r : Int) (w : World) (hA : Asked w (some ad) T) (hi : i < T.length) (hr : recordE T i = r) :
 Calls Tryz.prog 115 #[.slice (some ad) T.length c, .int .i64 i] w fun e w' => e = .returned (.int .i64 r) ∧ Up w w' := by
 have hx : T[i]? = some T[i] := List.getElem?_eq_getElem hi
 have hk := (hA.right T[i] (List.getElem_mem _)).kind
 generalize T[i] = x at hx hk
 rcases fam_cases hk.1 hk.2 with hk | hk | hk | hk | hk | hk | hk | hk | hk | hk | hk | hk | hk | hk | hk
 case inr.inr.inr.inr.inr.inl => exact record_6 ad c T i x r w hA hx hk hr
 case inr.inr.inr.inr.inr.inr.inl => exact record_7 ad c T i x r w hA hx hk hr
 case inr.inr.inr.inr.inr.inr.inr.inl => exact record_8 ad c T i x r w hA hx hk hr
 all_goals exact record_other ad c T i x r w hA hx (by rw [hk]; decide) (by rw [hk]; decide) (by rw [← hr]; exact recordE_ok hx (wrongE_other (by rw [hk]; decide) (by rw [hk]; decide)) (by omega))
end Go.Proofs.YtnohcnneflogjaaGreat.M
