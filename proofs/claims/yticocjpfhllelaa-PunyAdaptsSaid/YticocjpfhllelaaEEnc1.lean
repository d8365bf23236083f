/- The walk of puny.Encode. -/
import Derived.Test.YticocjpfhllelaaEEnc0
import Derived.RegionTactic
import Derived.Outline
import Derived.IntWalk
import Derived.WalkMore
import Derived.BigQuiet
set_option linter.unusedVariables false
set_option linter.unusedSimpArgs false
namespace Go.Proofs.Yticocjpfhllelaa.XP
open Go.RowKit Go.Proofs.StableSort Go.Proofs.YticocjpfhllelaaW.PrintWords Go.Proofs.YticocjpfhllelaaW.PrintLast Go.Proofs.YticocjpfhllelaaW.PrintMore

theorem info3 : (Try.prog.info? 3).map (fun i => (i.zero, i.size, i.bytes)) = some (some (.int .i64 0), 1, 8) := by kernel_rfl

set_option maxHeartbeats 2000000 in
set_option maxRecDepth 100000 in
theorem enc_calls (A0 : Option Addr) (c0 : Nat) (l0 : List Int) (hsym : ∀ b o c, encA l0 0 [] [] (List.replicate (l0.length + 1) 0) = some (b, o, c) → ¬ o.length ≤ 1 → SymOk) (r1 : ByteArray) (r2 : Int) (w : World) (hr0 : Kd.C (Kd.int .i32) w A0 l0.length l0) (hc0 : l0.length ≤ c0) (h : encFn l0 = some (r1, r2)) :
    Calls Try.prog 11 #[.slice A0 l0.length c0] w fun e w' => e = .returned (.tuple #[.string r1, .int .i64 r2]) ∧ Below w.heap.size w w' := by
  have HC := Aside0.mk hr0
  clear hr0
  unfold encFn at h
  by_cases hlong : 65536 < l0.length
  · rw [if_pos hlong] at h
    simp only [Option.some.injEq, Prod.mk.injEq] at h
    obtain ⟨rfl, rfl⟩ := h
    go_enter Try.func11, Try.ntmps11
    go_wp2
    go_ret2
    exact ⟨rfl, below_alloc (Below.refl _ _) _⟩
  rw [if_neg hlong] at h
  obtain ⟨s, hs, h1⟩ := Option.bind_eq_some_iff.1 h
  clear h
  have h := h1
  clear h1
  have HS := Aside0.mk hs
  clear hs
  cases s with
  | false =>
    simp only [Bool.false_eq_true, if_false, Option.some.injEq, Prod.mk.injEq] at h
    obtain ⟨rfl, rfl⟩ := h
    go_enter Try.func11, Try.ntmps11
    go_wp2_with (go_at_call 26; refine (scalar_Sound.calls _ A0 c0 l0 false _ (Kd.C_below HC.out (below_alloc (Below.refl _ _) _)) hc0 HS.out).mono ?_; rintro e w' ⟨rfl, ⟨nd, rfl⟩⟩)
    go_ret2
    exact ⟨rfl, pw_below_drewN (below_alloc (Below.refl _ _) _) _⟩
  | true =>
    rw [if_pos rfl] at h
    obtain ⟨⟨b, o, c⟩, hA, h1⟩ := Option.bind_eq_some_iff.1 h
    clear h
    have h := h1
    clear h1
    simp only at h
    by_cases hcl : c.length = l0.length + 1 ∧ b.length ≤ 65536
    case neg => rw [if_neg hcl] at h; exact absurd h (by simp)
    rw [if_pos hcl] at h
    have HA := Aside0.mk hA
    have HE := Aside0.mk h
    have HCL := Aside0.mk hcl
    clear hA h hcl
    have hmk : ∀ W : World, (Instr.makeSlice 51 (.int .i64 ((l0.length : Int) + 1)) (.int .i64 ((l0.length : Int) + 1))).run Try.prog W = .ok (.slice (some ⟨W.heap.size, 0, none⟩) (l0.length + 1) (l0.length + 1)) (W.alloc (.cells (madeCells #[.int .i64 0] (l0.length + 1)) 3)) := by
      have := print_make (P := Try.prog) 51 3 .i64 8 Try.underlying51 info3 (by decide) (l0.length + 1) (by omega)
      simpa using this
    go_enter Try.func11, Try.ntmps11
    go_wp2_with (go_at_call 26; refine (scalar_Sound.calls _ A0 c0 l0 true _ (Kd.C_below HC.out (below_alloc (Below.refl _ _) _)) hc0 HS.out).mono ?_; rintro e w' ⟨rfl, ⟨nd, rfl⟩⟩)
    have HI0 := Aside0.mk (InvA.start (w := w) (A0 := A0) (c0 := c0) (n0 := l0.length) nd (l0.length + 1) (by omega))
    generalize hW0 : ((((w.alloc (Obj.cells #[Value.slice A0 l0.length c0] 22)).drewN nd).alloc (Obj.cells #[Value.slice none 0 0] 41)).alloc (Obj.cells (madeCells #[Value.int IntKind.i64 0] (l0.length + 1)) 3)) = W0 at HI0 ⊢
    clear hW0
    obtain ⟨g6, h6⟩ : ∃ g6, w.heap.size + 1 + 1 = g6 := ⟨_, rfl⟩
    rw [h6] at HI0 ⊢
    obtain ⟨go, ho⟩ : ∃ go, w.heap.size + 1 = go := ⟨_, rfl⟩
    rw [ho] at HI0 ⊢
    obtain ⟨gx, hx⟩ : ∃ gx, w.heap.size = gx := ⟨_, rfl⟩
    rw [hx] at HI0 ⊢
    clear h6 ho hx hmk
    go_loopw [4, 25] (fun v4 v25 wr => ∃ (i : Nat) (u5 : Value) (B O C : List Int), v25 = .int .i64 i ∧ i ≤ l0.length ∧ B.length ≤ i ∧ O.length ≤ i ∧ Aside0 (C.length = l0.length + 1) ∧
        Aside0 (InvA w wr A0 c0 l0.length gx go g6 v4 u5 (.slice (some ⟨g6, 0, none⟩) (l0.length + 1) (l0.length + 1)) B O C) ∧ Aside0 (encA (l0.drop i) i B O C = some (b, o, c)))
      (fun _ v25 _ => l0.length - (intOf v25).toNat)
    case atStart => exact ⟨0, _, [], [], _, rfl, Nat.zero_le _, Nat.le_refl _, Nat.le_refl _, ⟨by simp⟩, HI0, HA⟩
    case round =>
      have HAA := HA
      clear HI0 HA
      obtain ⟨i, u5, B, O, C, rfl, hi, hBl, hOl, HCl, HI, HA⟩ := hrel
      by_cases hil : i < l0.length
      · obtain ⟨ad, rfl, hxi⟩ := HI.out.at_ HC.out hil
        have hA := HA.out
        rw [List.drop_eq_getElem_cons hil] at hA
        have hge : l0[i] = rd l0 i := by simp [rd, hil]
        rw [hge] at hA
        have c0g := HI.out.co
        by_cases hp : rd l0 i < 128
        · rw [encA, if_pos hp] at hA
          obtain ⟨C1, hT, hA⟩ := Option.bind_eq_some_iff.1 hA
          have HT := Aside0.mk hT
          have HA1 := Aside0.mk hA
          clear hA hT HA
          go_wp2_with (first | ((with_reducible refine gate_builtin (b := .append) (xs := #[.tmp 32, .tmp 35]) rfl ?_); at_builtin; refine Kd.R_append (Kd.int .u8) (w0 := w) w.heap.size rfl (.tmp 32) (.tmp 35) 40 5 (.int .u8 0) 1 rfl Try.underlying40 info5 rfl (by decide) (by omega) u4 B (rd l0 i % 256) [.int .u8 (rd l0 i % 256)] (fun k => k ≠ g6) (fun _ => False) rfl rfl ?aP (fun _ hk => hk.elim) ?aF ?aO ?aB ?aS ?aL ?_; (case aP => exact rfl); (case aF => exact fun k hk => by have := HI.out.s6; omega); (case aO => exact HI.out.B4); (case aB => exact HI.out.bel); (case aS => exact HI.out.bel.size); (case aL => omega); intro v1 w1 hr hb hg hat_; have HI1 := Aside0.mk (HI.out.put4 hr hb hg); clear hr hb hg hat_ HI c0g) | (go_at_call 27; refine (puny_counts_take.calls _ (fun k => k = g6) (.slice (some ⟨g6, 0, none⟩) (l0.length + 1) (l0.length + 1)) C i C1 w _ HI1.out.bel HI1.out.B6 HT.out).mono ?_; rintro e w2 ⟨rfl, hr2, hb2, hk2⟩; have HI2 := Aside0.mk (HI1.out.take hr2 hb2 hk2 rfl); clear hr2 hb2 hk2 HI1))
          go_roundw
          case rel => exact ⟨i + 1, u5, B ++ [rd l0 i % 256], O, C1, by first | rfl | (congr 1; omega), by omega, by simp; omega, by omega, ⟨(take_length HT.out).trans HCl.out⟩, HI2, HA1⟩
          case measure => simp [intOf]; omega
        · rw [encA, if_neg hp] at hA
          have HA1 := Aside0.mk hA
          clear hA HA
          go_wp2_with (first | ((with_reducible refine gate_builtin (b := .append) (xs := #[.tmp 40, .tmp 42]) rfl ?_); at_builtin; refine Kd.R_append (Kd.int .i64) (w0 := w) w.heap.size rfl (.tmp 40) (.tmp 42) 41 3 (.int .i64 0) 8 rfl Try.underlying41 info3 rfl (by decide) (by omega) u5 O (i : Int) [.int .i64 (i : Int)] (fun k => k ≠ g6) (fun _ => False) rfl rfl ?aP (fun _ hk => hk.elim) ?aF ?aO ?aB ?aS ?aL ?_; (case aP => exact rfl); (case aF => exact fun k hk => by have := HI.out.s6; omega); (case aO => exact HI.out.B5); (case aB => exact HI.out.bel); (case aS => exact HI.out.bel.size); (case aL => omega); intro v1 w1 hr hb hg hat_; obtain ⟨cg, fg⟩ := HI.out.box5 hg; obtain ⟨A1, c1, e1⟩ := Kd.R_slice hr; rw [List.length_append, List.length_singleton] at e1; subst e1; have HI1 := Aside0.mk (HI.out.put5 hr hb hg); clear hr hb hg hat_ HI c0g))
          go_roundw
          case rel => exact ⟨i + 1, _, B, O ++ [(i : Int)], C, by first | rfl | (congr 1; omega), by omega, by omega, by simp; omega, HCl, HI1, HA1⟩
          case measure => simp [intOf]; omega
      · have hA := HA.out
        rw [List.drop_eq_nil_of_le (by omega)] at hA
        simp only [encA, Option.some.injEq, Prod.mk.injEq] at hA
        obtain ⟨rfl, rfl, rfl⟩ := hA
        clear HA
        have hpl := encA_places l0 0 [] [] _ _ _ _ HAA.out (by simp) (by simp) (by simp)
        rw [Nat.zero_add] at hpl
        have HPL := Aside0.mk hpl
        have HSO := Aside0.mk (hsym _ _ _ HAA.out)
        clear hpl HAA
        obtain ⟨A4, c4, e4⟩ := Kd.R_slice HI.out.B4
        subst e4
        obtain ⟨A5, c5, e5⟩ := Kd.R_slice HI.out.B5
        subst e5
        have hu54 := Try.underlying54
        have c0g := HI.out.co
        by_cases hb0 : 0 < B.length
        · skip
          have hE2 := HE.out
          rw [if_pos hb0] at hE2
          have HE2 := Aside0.mk hE2
          clear hE2 HE
          go_wp2_with (first | (go_at_call 28; refine (puny_begun.calls (B.length : Int) B.length 128 0 72 0 _ rfl).mono ?_; rintro e w1 ⟨rfl, hb1⟩; have HI2 := Aside0.mk ((HI.out.step hb1).step (below_alloc (Below.refl _ _) (.cells #[.int .i64 (B.length : Int), .int .i64 128, .int .i64 0, .int .i64 72, .int .i64 0] 54))); have HG := Aside0.mk (Nat.le_trans HI.out.bel.size hb1.size); have HS2 : Aside0 (St (w1.alloc (.cells #[.int .i64 (B.length : Int), .int .i64 128, .int .i64 0, .int .i64 72, .int .i64 0] 54)) w1.heap.size B.length 128 0 72 0) := ⟨blk_new _ _⟩; have c1g := HI2.out.co; clear hb1 HI c0g) | ((with_reducible refine gate_builtin (b := .append) (xs := #[.tmp 51, .tmp 52]) rfl ?_); at_builtin; refine Kd.R_append (Kd.int .u8) (w0 := w) w.heap.size rfl (.tmp 51) (.tmp 52) 40 5 (.int .u8 0) 1 rfl Try.underlying40 info5 rfl (by decide) (by omega) (.slice A4 B.length c4) B 45 [.int .u8 45] (fun k => k ≠ g6) (fun _ => False) rfl (by first | rfl | (go_simp; done) | (go_simp; rfl)) ?aP (fun _ hk => hk.elim) ?aF ?aO ?aB ?aS ?aL ?_; (case aP => exact rfl); (case aF => exact fun k hk => by have := HI2.out.s6; omega); (case aO => exact HI2.out.B4); (case aB => exact HI2.out.bel); (case aS => exact HI2.out.bel.size); (case aL => omega); intro v3 w3 hr hb hg hat_; have HS3 := Aside0.mk (HI2.out.st_put4 HS2.out hg); have HI3 := Aside0.mk (HI2.out.put4 hr hb hg); have c3g := HI3.out.co; clear hr hb hg hat_ HI2 HS2 c1g) | (go_at_call 29; refine (sort_calls w _ A0 c0 l0 gx go _ O HSO.out (fun k => k ≠ g6) HC.out HI3.out.bel HI3.out.B5 HI3.out.cx HI3.out.co HI3.out.xne.1 HI3.out.xne.2 (fun x hx => by have := HPL.out.1 x hx; omega) HPL.out.2.1 (by omega) HPL.out.2.2).mono ?_; rintro e w4 ⟨rfl, hr, hb, hk⟩; have HS4 := Aside0.mk (HI3.out.st5 HS3.out hk); have HI4 := Aside0.mk (HI3.out.sorted hr hb hk); have c4g := HI4.out.co; clear hr hb hk HI3 HS3))
          have hlo := (ordP_perm (rd l0) O).length_eq
          have HQ : Aside0 (∀ x ∈ ordP (rd l0) O, 0 ≤ x ∧ x < l0.length) := ⟨fun x hx => by have := HPL.out.1 x ((ordP_perm (rd l0) O).mem_iff.1 hx); omega⟩
          generalize ordP (rd l0) O = O2 at HI4 HE2 hlo HQ
          obtain ⟨g9, h9⟩ : ∃ g9, w1.heap.size = g9 := ⟨_, rfl⟩
          rw [h9] at HG HS4 ⊢
          have hB1 : (B ++ [45]).length ≤ 1000000000001 := by first | omega | (simp; omega)
          clear h9 HPL
          go_loopw [4, 60] (fun v4 v60 wr => ∃ (j : Nat) (B2 C2 : List Int) (p n ii bias st : Int), v60 = .int .i64 j ∧ j ≤ O.length ∧ B2.length ≤ 1000000000001 ∧ Aside0 (C2.length = l0.length + 1) ∧ Aside0 (InvA w wr A0 c0 l0.length gx go g6 v4 (.slice A5 O.length c5) (.slice (some ⟨g6, 0, none⟩) (l0.length + 1) (l0.length + 1)) B2 O2 C2) ∧
              Aside0 (St wr g9 p n ii bias st) ∧ Aside0 (encB l0 (O2.drop j) B2 C2 p n ii bias st = some (r1, r2)))
            (fun _ v60 _ => O.length - (intOf v60).toNat)
          case atStart => exact ⟨0, (B ++ [45]), C, B.length, 128, 0, 72, 0, rfl, Nat.zero_le _, hB1, HCl, HI4, HS4, HE2⟩
          case round =>
            clear HI4 HS4 HE2 hB1 HCl
            obtain ⟨j, B2, C2, p, n, ii, bias, st, rfl, hj, hB2, HCl, HI, HS, HE⟩ := hrel
            have hE := HE.out
            obtain ⟨k0, k1, k2, k3⟩ := HS.out.cells
            have cg := HI.out.co
            have cx := HI.out.cx
            by_cases hjl : j < O.length
            · obtain ⟨a5, hA5, hoj⟩ := HI.out.o_at (j := j) (by omega)
              subst hA5
              rw [List.drop_eq_getElem_cons (by omega)] at hE
              have hge : O2[j]'(by omega) = rd O2 j := by simp [rd, hlo, hjl]
              have hin := HQ.out (O2[j]'(by omega)) (List.getElem_mem _)
              rw [hge] at hE hin
              obtain ⟨a, ha⟩ : ∃ a : Nat, rd O2 j = a := ⟨(rd O2 j).toNat, by omega⟩
              rw [ha] at hE hoj hin
              have hal : a < l0.length := by omega
              obtain ⟨ax, hAx, hxa⟩ := HI.out.at_ HC.out hal
              subst hAx
              unfold encB at hE
              obtain ⟨h, hh, hE1⟩ := Option.bind_eq_some_iff.1 hE
              clear hE ha hge hin HE
              have HH := Aside0.mk hh
              clear hh
              by_cases hok : okB p n ii bias st = true
              case neg => rw [if_neg hok] at hE1; exact absurd hE1 (by simp)
              rw [if_pos hok] at hE1
              obtain ⟨dd, hd⟩ : ∃ dd, dOf (rd l0 a) n p h ii = dd := ⟨_, rfl⟩
              rw [hd] at hE1
              unfold dOf at hd
              have HE1 := Aside0.mk hE1
              clear hE1
              have hok' : (0 ≤ p ∧ p ≤ 200000) ∧ (0 ≤ n ∧ n ≤ 4294967296) ∧ (0 ≤ ii ∧ ii ≤ 200000) ∧ (0 ≤ st ∧ st ≤ 200000) ∧ (0 ≤ bias ∧ bias ≤ 200000) := by
                simp only [okB, Bool.and_eq_true, decide_eq_true_eq] at hok
                omega
              obtain ⟨⟨hp0, hp1⟩, ⟨hn0, hn1⟩, ⟨hi0, hi1⟩, ⟨hs0, hs1⟩, ⟨hb0', hb1'⟩⟩ := hok'
              clear hok
              have hah : ∀ q, Calls Try.prog 31 #[.slice (some ⟨g6, 0, none⟩) (l0.length + 1) (l0.length + 1), .int .i64 (a : Int)] (wr.drewN q) fun e w' => e = .returned (.int .i64 h) ∧ ∃ m, w' = (wr.drewN q).drewN m := fun q => by
                have h6 := Kd.R_reads' (Kd.R_drewN HI.out.B6 q)
                have h7 := h6.2.2
                have h8 := puny_counts_ahead.calls (C2.length + 5) (some ⟨g6, 0, none⟩) (l0.length + 1) C2 (a : Int) h (wr.drewN q) h7 (by rw [HCl.out]; exact Nat.le_refl _) HH.out
                rw [HCl.out] at h8
                refine h8.mono ?_
                rintro e w' ⟨rfl, ⟨m, rfl⟩⟩
                exact ⟨rfl, m, rfl⟩
              have HAH := Aside0.mk hah
              clear hah
              go_wp2_with (fail)
              go_quiet ((go_at_call 31; refine Calls.quiet_of (HAH.out _)))
              rw [hd]
              have hE1 := HE1.out
              clear HE1 hd HAH HH hoj hxa k0 k1 k2 cg cx
              by_cases hbig : 2147483647 < dd
              · rw [if_pos hbig] at hE1
                simp only [Option.some.injEq, Prod.mk.injEq] at hE1
                obtain ⟨rfl, rfl⟩ := hE1
                go_wp2
                go_ret2
                exact ⟨rfl, pw_below_drewN HI.out.bel _⟩
              · rw [if_neg hbig] at hE1
                by_cases hd0 : 0 ≤ dd
                case neg => rw [if_neg hd0] at hE1; exact absurd hE1 (by simp)
                rw [if_pos hd0] at hE1
                obtain ⟨b1, hN, hE2⟩ := Option.bind_eq_some_iff.1 hE1
                clear hE1
                obtain ⟨r, hR, hE3⟩ := Option.bind_eq_some_iff.1 hE2
                clear hE2
                obtain ⟨c1, hT, hE4⟩ := Option.bind_eq_some_iff.1 hE3
                clear hE3
                by_cases hlen : c1.length = C2.length ∧ b1.length ≤ 1000000000000
                case neg => rw [if_neg hlen] at hE4; exact absurd hE4 (by simp)
                rw [if_pos hlen] at hE4
                have HE5 := Aside0.mk hE4
                have HN := Aside0.mk hN
                have HR := Aside0.mk hR
                have HT := Aside0.mk hT
                have HLEN := Aside0.mk hlen
                clear hE4 hN hR hT hlen
                go_wp2_with (first | (go_at_call 32; refine (puny_number.calls 60 (fun k => some k = u4.ownBlock) u4 B2 dd bias b1 w _ (HI.out.drewN _).bel (Kd.R_tight rfl (HI.out.drewN _).B4) HN.out).mono ?_; rintro e w5 ⟨v5, rfl, hr, hb, hk⟩; have HS5 := Aside0.mk ((HI.out.drewN _).st4 (blk_drewN HS.out _) hk); have HI5 := Aside0.mk ((HI.out.drewN _).call4 (fun _ h => h) hr hb hk); clear hr hb hk HI HS k3) | (go_at_call 33; refine (step_calls g9 p n ii bias st dd r _ HS5.out hp0 hp1 hn0 hn1 hi0 hi1 hd0 (by omega) hs0 hs1 60 HR.out).mono ?_; rintro e w6 ⟨rfl, hs, hk, hb⟩; have HS6 := Aside0.mk hs; have HI6 := Aside0.mk (HI5.out.state HS5.out HG.out hk hb); clear hs hk hb HI5 HS5) | (go_at_call 27; refine (puny_counts_take.calls _ (fun k => k = g6) (.slice (some ⟨g6, 0, none⟩) (l0.length + 1) (l0.length + 1)) C2 a c1 w _ HI6.out.bel HI6.out.B6 HT.out).mono ?_; rintro e w7 ⟨rfl, hr7, hb7, hk7⟩; have HS7 := Aside0.mk (HI6.out.st_take HS6.out hk7); have HI7 := Aside0.mk (HI6.out.take hr7 hb7 hk7 rfl); clear hr7 hb7 hk7 HI6 HS6))
                go_roundw
                case rel => exact ⟨j + 1, b1, c1, p + 1, _, _, r, st + 1, by first | rfl | (congr 1; omega), by omega, by have := HLEN.out.2; omega, ⟨HLEN.out.1.trans HCl.out⟩, HI7, HS7, HE5⟩
                case measure => simp [intOf]; omega
            · rw [List.drop_eq_nil_of_le (by omega)] at hE
              simp only [encB, Option.some.injEq, Prod.mk.injEq] at hE
              obtain ⟨rfl, rfl⟩ := hE
              have hcv := own_string (P := Try.prog) Try.underlying40 Try.underlying5 Try.underlying9 (Kd.own_of_R HI.out.B4)
              go_wp2
              go_ret2
              exact ⟨rfl, HI.out.bel⟩
        · skip
          have hE2 := HE.out
          rw [if_neg hb0] at hE2
          have HE2 := Aside0.mk hE2
          clear hE2 HE
          go_wp2_with (first | (go_at_call 28; refine (puny_begun.calls (B.length : Int) B.length 128 0 72 0 _ rfl).mono ?_; rintro e w1 ⟨rfl, hb1⟩; have HI2 := Aside0.mk ((HI.out.step hb1).step (below_alloc (Below.refl _ _) (.cells #[.int .i64 (B.length : Int), .int .i64 128, .int .i64 0, .int .i64 72, .int .i64 0] 54))); have HG := Aside0.mk (Nat.le_trans HI.out.bel.size hb1.size); have HS2 : Aside0 (St (w1.alloc (.cells #[.int .i64 (B.length : Int), .int .i64 128, .int .i64 0, .int .i64 72, .int .i64 0] 54)) w1.heap.size B.length 128 0 72 0) := ⟨blk_new _ _⟩; have c1g := HI2.out.co; clear hb1 HI c0g) | (go_at_call 29; refine (sort_calls w _ A0 c0 l0 gx go _ O HSO.out (fun k => k ≠ g6) HC.out HI2.out.bel HI2.out.B5 HI2.out.cx HI2.out.co HI2.out.xne.1 HI2.out.xne.2 (fun x hx => by have := HPL.out.1 x hx; omega) HPL.out.2.1 (by omega) HPL.out.2.2).mono ?_; rintro e w4 ⟨rfl, hr, hb, hk⟩; have HS4 := Aside0.mk (HI2.out.st5 HS2.out hk); have HI4 := Aside0.mk (HI2.out.sorted hr hb hk); have c4g := HI4.out.co; clear hr hb hk HI2 HS2))
          have hlo := (ordP_perm (rd l0) O).length_eq
          have HQ : Aside0 (∀ x ∈ ordP (rd l0) O, 0 ≤ x ∧ x < l0.length) := ⟨fun x hx => by have := HPL.out.1 x ((ordP_perm (rd l0) O).mem_iff.1 hx); omega⟩
          generalize ordP (rd l0) O = O2 at HI4 HE2 hlo HQ
          obtain ⟨g9, h9⟩ : ∃ g9, w1.heap.size = g9 := ⟨_, rfl⟩
          rw [h9] at HG HS4 ⊢
          have hB1 : B.length ≤ 1000000000001 := by first | omega | (simp; omega)
          clear h9 HPL
          go_loopw [4, 60] (fun v4 v60 wr => ∃ (j : Nat) (B2 C2 : List Int) (p n ii bias st : Int), v60 = .int .i64 j ∧ j ≤ O.length ∧ B2.length ≤ 1000000000001 ∧ Aside0 (C2.length = l0.length + 1) ∧ Aside0 (InvA w wr A0 c0 l0.length gx go g6 v4 (.slice A5 O.length c5) (.slice (some ⟨g6, 0, none⟩) (l0.length + 1) (l0.length + 1)) B2 O2 C2) ∧
              Aside0 (St wr g9 p n ii bias st) ∧ Aside0 (encB l0 (O2.drop j) B2 C2 p n ii bias st = some (r1, r2)))
            (fun _ v60 _ => O.length - (intOf v60).toNat)
          case atStart => exact ⟨0, B, C, B.length, 128, 0, 72, 0, rfl, Nat.zero_le _, hB1, HCl, HI4, HS4, HE2⟩
          case round =>
            clear HI4 HS4 HE2 hB1 HCl
            obtain ⟨j, B2, C2, p, n, ii, bias, st, rfl, hj, hB2, HCl, HI, HS, HE⟩ := hrel
            have hE := HE.out
            obtain ⟨k0, k1, k2, k3⟩ := HS.out.cells
            have cg := HI.out.co
            have cx := HI.out.cx
            by_cases hjl : j < O.length
            · obtain ⟨a5, hA5, hoj⟩ := HI.out.o_at (j := j) (by omega)
              subst hA5
              rw [List.drop_eq_getElem_cons (by omega)] at hE
              have hge : O2[j]'(by omega) = rd O2 j := by simp [rd, hlo, hjl]
              have hin := HQ.out (O2[j]'(by omega)) (List.getElem_mem _)
              rw [hge] at hE hin
              obtain ⟨a, ha⟩ : ∃ a : Nat, rd O2 j = a := ⟨(rd O2 j).toNat, by omega⟩
              rw [ha] at hE hoj hin
              have hal : a < l0.length := by omega
              obtain ⟨ax, hAx, hxa⟩ := HI.out.at_ HC.out hal
              subst hAx
              unfold encB at hE
              obtain ⟨h, hh, hE1⟩ := Option.bind_eq_some_iff.1 hE
              clear hE ha hge hin HE
              have HH := Aside0.mk hh
              clear hh
              by_cases hok : okB p n ii bias st = true
              case neg => rw [if_neg hok] at hE1; exact absurd hE1 (by simp)
              rw [if_pos hok] at hE1
              obtain ⟨dd, hd⟩ : ∃ dd, dOf (rd l0 a) n p h ii = dd := ⟨_, rfl⟩
              rw [hd] at hE1
              unfold dOf at hd
              have HE1 := Aside0.mk hE1
              clear hE1
              have hok' : (0 ≤ p ∧ p ≤ 200000) ∧ (0 ≤ n ∧ n ≤ 4294967296) ∧ (0 ≤ ii ∧ ii ≤ 200000) ∧ (0 ≤ st ∧ st ≤ 200000) ∧ (0 ≤ bias ∧ bias ≤ 200000) := by
                simp only [okB, Bool.and_eq_true, decide_eq_true_eq] at hok
                omega
              obtain ⟨⟨hp0, hp1⟩, ⟨hn0, hn1⟩, ⟨hi0, hi1⟩, ⟨hs0, hs1⟩, ⟨hb0', hb1'⟩⟩ := hok'
              clear hok
              have hah : ∀ q, Calls Try.prog 31 #[.slice (some ⟨g6, 0, none⟩) (l0.length + 1) (l0.length + 1), .int .i64 (a : Int)] (wr.drewN q) fun e w' => e = .returned (.int .i64 h) ∧ ∃ m, w' = (wr.drewN q).drewN m := fun q => by
                have h6 := Kd.R_reads' (Kd.R_drewN HI.out.B6 q)
                have h7 := h6.2.2
                have h8 := puny_counts_ahead.calls (C2.length + 5) (some ⟨g6, 0, none⟩) (l0.length + 1) C2 (a : Int) h (wr.drewN q) h7 (by rw [HCl.out]; exact Nat.le_refl _) HH.out
                rw [HCl.out] at h8
                refine h8.mono ?_
                rintro e w' ⟨rfl, ⟨m, rfl⟩⟩
                exact ⟨rfl, m, rfl⟩
              have HAH := Aside0.mk hah
              clear hah
              go_wp2_with (fail)
              go_quiet ((go_at_call 31; refine Calls.quiet_of (HAH.out _)))
              rw [hd]
              have hE1 := HE1.out
              clear HE1 hd HAH HH hoj hxa k0 k1 k2 cg cx
              by_cases hbig : 2147483647 < dd
              · rw [if_pos hbig] at hE1
                simp only [Option.some.injEq, Prod.mk.injEq] at hE1
                obtain ⟨rfl, rfl⟩ := hE1
                go_wp2
                go_ret2
                exact ⟨rfl, pw_below_drewN HI.out.bel _⟩
              · rw [if_neg hbig] at hE1
                by_cases hd0 : 0 ≤ dd
                case neg => rw [if_neg hd0] at hE1; exact absurd hE1 (by simp)
                rw [if_pos hd0] at hE1
                obtain ⟨b1, hN, hE2⟩ := Option.bind_eq_some_iff.1 hE1
                clear hE1
                obtain ⟨r, hR, hE3⟩ := Option.bind_eq_some_iff.1 hE2
                clear hE2
                obtain ⟨c1, hT, hE4⟩ := Option.bind_eq_some_iff.1 hE3
                clear hE3
                by_cases hlen : c1.length = C2.length ∧ b1.length ≤ 1000000000000
                case neg => rw [if_neg hlen] at hE4; exact absurd hE4 (by simp)
                rw [if_pos hlen] at hE4
                have HE5 := Aside0.mk hE4
                have HN := Aside0.mk hN
                have HR := Aside0.mk hR
                have HT := Aside0.mk hT
                have HLEN := Aside0.mk hlen
                clear hE4 hN hR hT hlen
                go_wp2_with (first | (go_at_call 32; refine (puny_number.calls 60 (fun k => some k = u4.ownBlock) u4 B2 dd bias b1 w _ (HI.out.drewN _).bel (Kd.R_tight rfl (HI.out.drewN _).B4) HN.out).mono ?_; rintro e w5 ⟨v5, rfl, hr, hb, hk⟩; have HS5 := Aside0.mk ((HI.out.drewN _).st4 (blk_drewN HS.out _) hk); have HI5 := Aside0.mk ((HI.out.drewN _).call4 (fun _ h => h) hr hb hk); clear hr hb hk HI HS k3) | (go_at_call 33; refine (step_calls g9 p n ii bias st dd r _ HS5.out hp0 hp1 hn0 hn1 hi0 hi1 hd0 (by omega) hs0 hs1 60 HR.out).mono ?_; rintro e w6 ⟨rfl, hs, hk, hb⟩; have HS6 := Aside0.mk hs; have HI6 := Aside0.mk (HI5.out.state HS5.out HG.out hk hb); clear hs hk hb HI5 HS5) | (go_at_call 27; refine (puny_counts_take.calls _ (fun k => k = g6) (.slice (some ⟨g6, 0, none⟩) (l0.length + 1) (l0.length + 1)) C2 a c1 w _ HI6.out.bel HI6.out.B6 HT.out).mono ?_; rintro e w7 ⟨rfl, hr7, hb7, hk7⟩; have HS7 := Aside0.mk (HI6.out.st_take HS6.out hk7); have HI7 := Aside0.mk (HI6.out.take hr7 hb7 hk7 rfl); clear hr7 hb7 hk7 HI6 HS6))
                go_roundw
                case rel => exact ⟨j + 1, b1, c1, p + 1, _, _, r, st + 1, by first | rfl | (congr 1; omega), by omega, by have := HLEN.out.2; omega, ⟨HLEN.out.1.trans HCl.out⟩, HI7, HS7, HE5⟩
                case measure => simp [intOf]; omega
            · rw [List.drop_eq_nil_of_le (by omega)] at hE
              simp only [encB, Option.some.injEq, Prod.mk.injEq] at hE
              obtain ⟨rfl, rfl⟩ := hE
              have hcv := own_string (P := Try.prog) Try.underlying40 Try.underlying5 Try.underlying9 (Kd.own_of_R HI.out.B4)
              go_wp2
              go_ret2
              exact ⟨rfl, HI.out.bel⟩
end Go.Proofs.Yticocjpfhllelaa.XP
