/- Proved: NormJoins, for every table and two sequences (the first 100 numbers each): behind a Safe number NFC begins anew; so at full stops. Conditions: none beyond the statement's own. -/
import Derived.Test.YtnohcnneflogjaaGreatRows
import Derived.Test.YtnohcnneflogjaaGreatK37
import Derived.Test.YtnohcnneflogjaaGreatPNJoins
set_option linter.unusedVariables false
set_option linter.unusedSimpArgs false
namespace Go.Proofs.YtnohcnneflogjaaGreat.normJoins
open Go.RowKit Go.ChangeShapes Go.WideShapes Go.ChangeAt M
theorem own : ownKnob Tryz.prog.godebug = none := by kernel_rfl
theorem laidOut : laidOutB Tryz.prog = true := by kernel_rfl
set_option maxRecDepth 100000 in
theorem lifted (os : Os) (started : os.Started) (H : Type) (enc : TypeId × Value → H) :
 ReturnsInHanded {} Tryz.checked os 9 .any (Rows.normJoinsSpec.pre6 enc Tryz.prog Tryz.f9 Rows.normJoinsRow.domain false) (Rows.normJoinsSpec.post enc Tryz.prog Tryz.f9 false true false false) := by
 refine returnsInHanded_of_change_sized (C := Tryz.checked) own started (by kernel_rfl) Tryz.func9
  (ChangeSpec.witness6 (enc := enc) (C := Tryz.checked) false ⟨#[], #[.slice none 0 0, .slice none 0 0, .slice none 0 0], []⟩ 8 (by kernel_rfl) (by kernel_rfl) (by kernel_rfl) (by kernel_rfl)) ?_
 intro W base args ds gs before hval0 hW hcnd hsz0 _
 have hsz : (DataW.weightsEach Tryz.prog (Tryz.f9.params.toList ++ Rows.normJoinsSpec.plain.varTypes Tryz.prog) (ds ++ gs)).all (· ≤ reachBytes) = true := hsz0
 have hval : ∀ (j : Nat) t v, Tryz.f9.params[j]? = some t → args[j]? = some v → Value.okWide Tryz.prog W .any base t v := hval0
 have hW' := hW
 obtain ⟨p, q, hA0, hV, rfl, hfz, hnd⟩ := hW
 have hA : DataW.TrodAll enc Tryz.prog W 0 (fun _ => true) true Tryz.f9.params.toList args.toList ds p := hA0
 rw [Tryz.params9] at hA hval hsz
 obtain ⟨v0, vs0, d0, ds0, p0, q0, hargs0, rfl, rfl, h0, r0⟩ := trodAll_cons hA
 obtain ⟨v1, vs1, d1, ds1, p1, q1, hargs1, rfl, rfl, h1, r1⟩ := trodAll_cons r0
 obtain ⟨v2, vs2, d2, ds2, p2, q2, hargs2, rfl, rfl, h2, r2⟩ := trodAll_cons r1
 obtain ⟨rfl, rfl, rfl⟩ := trodAll_nil r2
 subst hargs2
 subst hargs1
 obtain rfl : args = #[v0, v1, v2] := by cases args; simp_all
 obtain ⟨rfl, rfl⟩ := trodVars_none hV
 obtain ⟨a0, len0, cap0, rfl⟩ := okWide_slice Tryz.underlying22 (hval 0 22 v0 rfl rfl)
 have k0 := h0
 have k1 := h1
 have k2 := h2
 have lt0 : ∀ x ∈ p0, x.block < W.heap.size := by obtain ⟨m, hm⟩ := k0; exact DataW.trod_lt m _ _ _ hm
 have lt1 : ∀ x ∈ p1, x.block < W.heap.size := by obtain ⟨m, hm⟩ := k1; exact DataW.trod_lt m _ _ _ hm
 have lt2 : ∀ x ∈ p2, x.block < W.heap.size := by obtain ⟨m, hm⟩ := k2; exact DataW.trod_lt m _ _ _ hm
 obtain ⟨T, hTl, hlc, hcm, hWf, hT⟩ := open_records h0 (fun n hn => by simpa using List.all_eq_true.1 hsz _ (DataW.weights_mem_each (j := 0) rfl rfl n hn))
 subst hTl
 obtain ⟨a1, c1, l1, rfl, hl1, hc1, hI1, hw1, hb1⟩ := open_row (by kernel_rfl : Tryz.prog.underlying 23 = some (.slice 21)) (by kernel_rfl : Tryz.prog.underlying 21 = some (.int .i32)) (by kernel_rfl) (hval 1 23 v1 rfl rfl) h1 (fun n hn => by simpa using List.all_eq_true.1 hsz _ (DataW.weights_mem_each (j := 1) rfl rfl n hn))
 rw [show Tryz.prog.bytesOf 21 = 4 by kernel_rfl] at hb1
 have hs1 : l1.length < 4611686018427387904 := by omega
 obtain ⟨a2, c2, l2, rfl, hl2, hc2, hI2, hw2, hb2⟩ := open_row (by kernel_rfl : Tryz.prog.underlying 23 = some (.slice 21)) (by kernel_rfl : Tryz.prog.underlying 21 = some (.int .i32)) (by kernel_rfl) (hval 2 23 v2 rfl rfl) h2 (fun n hn => by simpa using List.all_eq_true.1 hsz _ (DataW.weights_mem_each (j := 2) rfl rfl n hn))
 rw [show Tryz.prog.bytesOf 21 = 4 by kernel_rfl] at hb2
 have hs2 : l2.length < 4611686018427387904 := by omega
 clear hA0 hval0 hsz0 hsz
 have key : Calls Tryz.prog 9 #[.slice a0 T.length cap0, .slice a1 l1.length c1, .slice a2 l2.length c2] W fun e w' => e = .returned (.bool true) ∧ Up W w' := by
  rcases Int.decEq (checkE (T.take 150)).2 0 with h | h
  ·exact Nm.NormJoins_no a0 cap0 T a1 _ c1 a2 _ c2 W hT hWf hlc h
  ·exact Nm.NormJoins_yes a0 cap0 T _ a1 l1 c1 a2 l2 c2 W rfl hT hWf hlc h hI1 hs1 hl1 hw1 hI2 hs2 hl2 hw2
 refine key.mono fun e W' ⟨he, bel⟩ => ?_
 subst he
 exact ⟨_, rfl, _, _, _, [], _, [], hW', trodAll_mk1 (shut_bool Tryz.underlying4 _), (trodAll_cons_mk (Below.trod laidOut (by kernel_rfl) (of_decide_eq_true (by kernel_rfl)) k0 bel lt0) (trodAll_cons_mk (Below.trod laidOut (by kernel_rfl) (of_decide_eq_true (by kernel_rfl)) k1 bel lt1) (trodAll_cons_mk (Below.trod laidOut (by kernel_rfl) (of_decide_eq_true (by kernel_rfl)) k2 bel lt2) trodAll_mk0))), rfl, bel.frame _, fun h => by cases h⟩
theorem and2 {a b : Bool} (ha : a = true) (hb : b = true) : (a && b) = true := by rw [ha, hb]; rfl
theorem k1 : Rows.normJoinsRow.wf (OpenSpec.ofChange Rows.normJoinsSpec) = true := by kernel_rfl
theorem k3 : mapsRowed Tryz.prog = true := by kernel_rfl
theorem k10 : (Rows.normJoinsRow.inPlace == Tryz.prog.inPlace 9) = true := by kernel_rfl
theorem k11 : (Rows.normJoinsRow.unfollowed == Tryz.prog.unfollowed 9) = true := by kernel_rfl
theorem k12 : (Rows.normJoinsRow.recurses == Tryz.prog.recurses 9) = true := by kernel_rfl
theorem k13 : (Rows.normJoinsRow.named == Tryz.prog.varsNamed 9) = true := by kernel_rfl
theorem k17 : (Rows.normJoinsRow.loops == (Tryz.f9.params.toList ++ Rows.normJoinsSpec.plain.varTypes Tryz.prog).any (Tryz.prog.loopsFrom ·)) = true := by kernel_rfl
theorem k18 : (Rows.normJoinsRow.wideKeys == (Tryz.f9.params.toList ++ Rows.normJoinsSpec.plain.varTypes Tryz.prog ++ Tryz.f9.resultTypes.toList).any (Tryz.prog.wideKeysFrom ·)) = true := by kernel_rfl
theorem k23 : (Rows.normJoinsRow.plainKeys == Tryz.prog.plainKeys) = true := by kernel_rfl
theorem k25 : Tryz.prog.stopsHeard = true := by kernel_rfl
theorem k26 : Tryz.prog.mayEnter = true := by kernel_rfl
theorem k27 : (Rows.normJoinsRow.lifted == Tryz.prog.liftsFinal) = true := by kernel_rfl
theorem k31 : (Rows.normJoinsRow.veiled == (Tryz.f9.params.toList ++ Rows.normJoinsSpec.plain.varTypes Tryz.prog ++ Tryz.f9.resultTypes.toList).any (Tryz.prog.veiledRec ·)) = true := by kernel_rfl
theorem k32 : Rows.normJoinsRow.veiledFits Tryz.prog Tryz.f9.params.toList (Tryz.f9.params.toList ++ Rows.normJoinsSpec.plain.varTypes Tryz.prog ++ Tryz.f9.resultTypes.toList) = true := by kernel_rfl
theorem closed : joinedFacts Tryz.prog 9 Tryz.f9 Rows.normJoinsSpec Rows.normJoinsRow = true := by
 unfold joinedFacts
 repeat' (with_reducible refine and2 ?_ ?_)
 ·exact k1
 ·exact laidOut
 ·exact k3
 ·kernel_rfl
 ·kernel_rfl
 ·kernel_rfl
 ·kernel_rfl
 ·kernel_rfl
 ·kernel_rfl
 ·exact k10
 ·exact k11
 ·exact k12
 ·exact k13
 ·kernel_rfl
 ·kernel_rfl
 ·kernel_rfl
 ·exact k17
 ·exact k18
 ·kernel_rfl
 ·kernel_rfl
 ·kernel_rfl
 ·kernel_rfl
 ·exact k23
 ·kernel_rfl
 ·exact k25
 ·exact k26
 ·exact k27
 ·kernel_rfl
 ·kernel_rfl
 ·kernel_rfl
 ·exact k31
 ·exact k32
theorem fnamed : Tryz.prog.funcNamed Rows.normJoinsRow.func = some 9 := by kernel_rfl
theorem inst : Tryz.f9.isInstance Tryz.prog Rows.normJoinsRow.origin Rows.normJoinsRow.targs := of_decide_eq_true (by kernel_rfl)
theorem wrap : Tryz.f9.isWrapper Tryz.prog Rows.normJoinsRow.wrapper Rows.normJoinsRow.mainSum := by
 unfold Func.isWrapper
 first | (rw [if_pos (by decide +kernel)]; kernel_rfl) | (rw [if_neg (by decide +kernel)]; exact ⟨rfl, rfl⟩)
theorem over : Rows.normJoinsRow.holds Tryz.pinned (OpenSpec.ofChange Rows.normJoinsSpec) :=
 OpenClaim.holds_of_wide 9 Tryz.f9 rfl rfl rfl rfl rfl rfl rfl ⟨rfl, rfl, rfl, rfl, rfl⟩ rfl rfl rfl rfl rfl fnamed Tryz.func9 closed inst wrap
  (fun os started H enc _ => lifted os started H enc)
theorem proved : Rows.NormJoinsSaid := over
#print axioms proved
end Go.Proofs.YtnohcnneflogjaaGreat.normJoins
namespace Go.Proofs.YtnohcnneflogjaaGreat
theorem normJoins_holds : Rows.NormJoinsSaid := normJoins.proved
end Go.Proofs.YtnohcnneflogjaaGreat
