/- Proved: NormQuick, for every table and numbers (the first 200): Quick, Is and Safe of each are the document's. Conditions: none beyond the statement's own. -/
import Derived.Test.YtnohcnneflogjaaGreatRows
import Derived.Test.YtnohcnneflogjaaGreatK37
import Derived.Test.YtnohcnneflogjaaGreatQB5
set_option linter.unusedVariables false
set_option linter.unusedSimpArgs false
namespace Go.Proofs.YtnohcnneflogjaaGreat.normQuick
open Go.RowKit Go.ChangeShapes Go.WideShapes Go.ChangeAt M
theorem own : ownKnob Tryz.prog.godebug = none := by kernel_rfl
theorem laidOut : laidOutB Tryz.prog = true := by kernel_rfl
set_option maxRecDepth 100000 in
theorem lifted (os : Os) (started : os.Started) (H : Type) (enc : TypeId × Value → H) :
 ReturnsInHanded {} Tryz.checked os 16 .any (Rows.normQuickSpec.pre6 enc Tryz.prog Tryz.f16 Rows.normQuickRow.domain false) (Rows.normQuickSpec.post enc Tryz.prog Tryz.f16 false true false false) := by
 refine returnsInHanded_of_change_sized (C := Tryz.checked) own started (by kernel_rfl) Tryz.func16
  (ChangeSpec.witness6 (enc := enc) (C := Tryz.checked) false ⟨#[], #[.slice none 0 0, .slice none 0 0], []⟩ 8 (by kernel_rfl) (by kernel_rfl) (by kernel_rfl) (by kernel_rfl)) ?_
 intro W base args ds gs before hval0 hW hcnd hsz0 _
 have hsz : (DataW.weightsEach Tryz.prog (Tryz.f16.params.toList ++ Rows.normQuickSpec.plain.varTypes Tryz.prog) (ds ++ gs)).all (· ≤ reachBytes) = true := hsz0
 have hval : ∀ (j : Nat) t v, Tryz.f16.params[j]? = some t → args[j]? = some v → Value.okWide Tryz.prog W .any base t v := hval0
 have hW' := hW
 obtain ⟨p, q, hA0, hV, rfl, hfz, hnd⟩ := hW
 have hA : DataW.TrodAll enc Tryz.prog W 0 (fun _ => true) true Tryz.f16.params.toList args.toList ds p := hA0
 rw [Tryz.params16] at hA hval hsz
 obtain ⟨v0, vs0, d0, ds0, p0, q0, hargs0, rfl, rfl, h0, r0⟩ := trodAll_cons hA
 obtain ⟨v1, vs1, d1, ds1, p1, q1, hargs1, rfl, rfl, h1, r1⟩ := trodAll_cons r0
 obtain ⟨rfl, rfl, rfl⟩ := trodAll_nil r1
 subst hargs1
 obtain rfl : args = #[v0, v1] := by cases args; simp_all
 obtain ⟨rfl, rfl⟩ := trodVars_none hV
 obtain ⟨a0, len0, cap0, rfl⟩ := okWide_slice Tryz.underlying22 (hval 0 22 v0 rfl rfl)
 have k0 := h0
 have k1 := h1
 have lt0 : ∀ x ∈ p0, x.block < W.heap.size := by obtain ⟨m, hm⟩ := k0; exact DataW.trod_lt m _ _ _ hm
 have lt1 : ∀ x ∈ p1, x.block < W.heap.size := by obtain ⟨m, hm⟩ := k1; exact DataW.trod_lt m _ _ _ hm
 obtain ⟨T, hTl, hlc, hcm, hWf, hT⟩ := open_records h0 (fun n hn => by simpa using List.all_eq_true.1 hsz _ (DataW.weights_mem_each (j := 0) rfl rfl n hn))
 subst hTl
 obtain ⟨a1, c1, l1, rfl, hl1, hc1, hI1, hw1, hb1⟩ := open_row (by kernel_rfl : Tryz.prog.underlying 23 = some (.slice 21)) (by kernel_rfl : Tryz.prog.underlying 21 = some (.int .i32)) (by kernel_rfl) (hval 1 23 v1 rfl rfl) h1 (fun n hn => by simpa using List.all_eq_true.1 hsz _ (DataW.weights_mem_each (j := 1) rfl rfl n hn))
 rw [show Tryz.prog.bytesOf 21 = 4 by kernel_rfl] at hb1
 have hs1 : l1.length < 4611686018427387904 := by omega
 clear hA0 hval0 hsz0 hsz
 have key : Calls Tryz.prog 16 #[.slice a0 T.length cap0, .slice a1 l1.length c1] W fun e w' => e = .returned (.bool true) ∧ Up W w' := by
  rcases Int.decEq (checkE (T.take 150)).2 0 with h | h
  ·exact Nm.NormQuick_no a0 cap0 T a1 _ c1 W hT hWf hlc h
  ·exact Nm.NormQuick_yes a0 cap0 T _ a1 l1 c1 W rfl hT hWf hlc h hI1 hs1 hl1 hw1
 refine key.mono fun e W' ⟨he, bel⟩ => ?_
 subst he
 exact ⟨_, rfl, _, _, _, [], _, [], hW', trodAll_mk1 (shut_bool Tryz.underlying4 _), (trodAll_cons_mk (Below.trod laidOut (by kernel_rfl) (of_decide_eq_true (by kernel_rfl)) k0 bel lt0) (trodAll_cons_mk (Below.trod laidOut (by kernel_rfl) (of_decide_eq_true (by kernel_rfl)) k1 bel lt1) trodAll_mk0)), rfl, bel.frame _, fun h => by cases h⟩
theorem and2 {a b : Bool} (ha : a = true) (hb : b = true) : (a && b) = true := by rw [ha, hb]; rfl
theorem k1 : Rows.normQuickRow.wf (OpenSpec.ofChange Rows.normQuickSpec) = true := by kernel_rfl
theorem k3 : mapsRowed Tryz.prog = true := by kernel_rfl
theorem k10 : (Rows.normQuickRow.inPlace == Tryz.prog.inPlace 16) = true := by kernel_rfl
theorem k11 : (Rows.normQuickRow.unfollowed == Tryz.prog.unfollowed 16) = true := by kernel_rfl
theorem k12 : (Rows.normQuickRow.recurses == Tryz.prog.recurses 16) = true := by kernel_rfl
theorem k13 : (Rows.normQuickRow.named == Tryz.prog.varsNamed 16) = true := by kernel_rfl
theorem k17 : (Rows.normQuickRow.loops == (Tryz.f16.params.toList ++ Rows.normQuickSpec.plain.varTypes Tryz.prog).any (Tryz.prog.loopsFrom ·)) = true := by kernel_rfl
theorem k18 : (Rows.normQuickRow.wideKeys == (Tryz.f16.params.toList ++ Rows.normQuickSpec.plain.varTypes Tryz.prog ++ Tryz.f16.resultTypes.toList).any (Tryz.prog.wideKeysFrom ·)) = true := by kernel_rfl
theorem k23 : (Rows.normQuickRow.plainKeys == Tryz.prog.plainKeys) = true := by kernel_rfl
theorem k25 : Tryz.prog.stopsHeard = true := by kernel_rfl
theorem k26 : Tryz.prog.mayEnter = true := by kernel_rfl
theorem k27 : (Rows.normQuickRow.lifted == Tryz.prog.liftsFinal) = true := by kernel_rfl
theorem k31 : (Rows.normQuickRow.veiled == (Tryz.f16.params.toList ++ Rows.normQuickSpec.plain.varTypes Tryz.prog ++ Tryz.f16.resultTypes.toList).any (Tryz.prog.veiledRec ·)) = true := by kernel_rfl
theorem k32 : Rows.normQuickRow.veiledFits Tryz.prog Tryz.f16.params.toList (Tryz.f16.params.toList ++ Rows.normQuickSpec.plain.varTypes Tryz.prog ++ Tryz.f16.resultTypes.toList) = true := by kernel_rfl
theorem closed : joinedFacts Tryz.prog 16 Tryz.f16 Rows.normQuickSpec Rows.normQuickRow = true := by
 unfold joinedFacts
 repeat' (with_reducible refine and2 ?_ ?_)
 ·exact k1
 ·exact laidOut
 ·exact k3
 ·kernel_rfl
 ·kernel_rfl
 ·kernel_rfl
 ·kernel_rfl
 ·kernel_rfl
 ·kernel_rfl
 ·exact k10
 ·exact k11
 ·exact k12
 ·exact k13
 ·kernel_rfl
 ·kernel_rfl
 ·kernel_rfl
 ·exact k17
 ·exact k18
 ·kernel_rfl
 ·kernel_rfl
 ·kernel_rfl
 ·kernel_rfl
 ·exact k23
 ·kernel_rfl
 ·exact k25
 ·exact k26
 ·exact k27
 ·kernel_rfl
 ·kernel_rfl
 ·kernel_rfl
 ·exact k31
 ·exact k32
theorem fnamed : Tryz.prog.funcNamed Rows.normQuickRow.func = some 16 := by kernel_rfl
theorem inst : Tryz.f16.isInstance Tryz.prog Rows.normQuickRow.origin Rows.normQuickRow.targs := of_decide_eq_true (by kernel_rfl)
theorem wrap : Tryz.f16.isWrapper Tryz.prog Rows.normQuickRow.wrapper Rows.normQuickRow.mainSum := by
 unfold Func.isWrapper
 first | (rw [if_pos (by decide +kernel)]; kernel_rfl) | (rw [if_neg (by decide +kernel)]; exact ⟨rfl, rfl⟩)
theorem over : Rows.normQuickRow.holds Tryz.pinned (OpenSpec.ofChange Rows.normQuickSpec) :=
 OpenClaim.holds_of_wide 16 Tryz.f16 rfl rfl rfl rfl rfl rfl rfl ⟨rfl, rfl, rfl, rfl, rfl⟩ rfl rfl rfl rfl rfl fnamed Tryz.func16 closed inst wrap
  (fun os started H enc _ => lifted os started H enc)
theorem proved : Rows.NormQuickSaid := over
#print axioms proved
end Go.Proofs.YtnohcnneflogjaaGreat.normQuick
namespace Go.Proofs.YtnohcnneflogjaaGreat
theorem normQuick_holds : Rows.NormQuickSaid := normQuick.proved
end Go.Proofs.YtnohcnneflogjaaGreat
