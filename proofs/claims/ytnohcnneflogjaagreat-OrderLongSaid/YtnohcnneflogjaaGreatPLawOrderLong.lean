/- Proved: OrderLong, for every number and size: MaxPoints numbers are taken, one more is ErrLong. Conditions: none beyond the statement's own. -/
import Derived.Test.YtnohcnneflogjaaGreatRows
import Derived.Test.YtnohcnneflogjaaGreatK37
import Derived.Test.YtnohcnneflogjaaGreatPOLong
set_option linter.unusedVariables false
set_option linter.unusedSimpArgs false
namespace Go.Proofs.YtnohcnneflogjaaGreat.orderLong
open Go.RowKit Go.ChangeShapes Go.WideShapes Go.ChangeAt M
theorem own : ownKnob Tryz.prog.godebug = none := by kernel_rfl
theorem laidOut : laidOutB Tryz.prog = true := by kernel_rfl
set_option maxRecDepth 100000 in
theorem lifted (os : Os) (started : os.Started) (H : Type) (enc : TypeId × Value → H) :
 ReturnsInHanded {} Tryz.checked os 4 .any (Rows.orderLongSpec.pre6 enc Tryz.prog Tryz.f4 Rows.orderLongRow.domain false) (Rows.orderLongSpec.post enc Tryz.prog Tryz.f4 false true false false) := by
 refine returnsInHanded_of_change_sized (C := Tryz.checked) own started (by kernel_rfl) Tryz.func4
  (ChangeSpec.witness6 (enc := enc) (C := Tryz.checked) false ⟨#[], #[.int .i32 0, .int .i64 0], []⟩ 8 (by kernel_rfl) (by kernel_rfl) (by kernel_rfl) (by kernel_rfl)) ?_
 intro W base args ds gs before hval0 hW hcnd hsz0 _
 have hsz : (DataW.weightsEach Tryz.prog (Tryz.f4.params.toList ++ Rows.orderLongSpec.plain.varTypes Tryz.prog) (ds ++ gs)).all (· ≤ reachBytes) = true := hsz0
 have hval : ∀ (j : Nat) t v, Tryz.f4.params[j]? = some t → args[j]? = some v → Value.okWide Tryz.prog W .any base t v := hval0
 have hW' := hW
 obtain ⟨p, q, hA0, hV, rfl, hfz, hnd⟩ := hW
 have hA : DataW.TrodAll enc Tryz.prog W 0 (fun _ => true) true Tryz.f4.params.toList args.toList ds p := hA0
 rw [Tryz.params4] at hA hval hsz
 obtain ⟨v0, vs0, d0, ds0, p0, q0, hargs0, rfl, rfl, h0, r0⟩ := trodAll_cons hA
 obtain ⟨v1, vs1, d1, ds1, p1, q1, hargs1, rfl, rfl, h1, r1⟩ := trodAll_cons r0
 obtain ⟨rfl, rfl, rfl⟩ := trodAll_nil r1
 subst hargs1
 obtain rfl : args = #[v0, v1] := by cases args; simp_all
 obtain ⟨rfl, rfl⟩ := trodVars_none hV
 have k0 := h0
 have k1 := h1
 have lt0 : ∀ x ∈ p0, x.block < W.heap.size := by obtain ⟨m, hm⟩ := k0; exact DataW.trod_lt m _ _ _ hm
 have lt1 : ∀ x ∈ p1, x.block < W.heap.size := by obtain ⟨m, hm⟩ := k1; exact DataW.trod_lt m _ _ _ hm
 obtain ⟨z0, rfl, _, _, hz0⟩ := open_int (by kernel_rfl : Tryz.prog.underlying 21 = some (.int .i32)) (hval 0 21 v0 rfl rfl) h0
 obtain ⟨z1, rfl, _, _, hz1⟩ := open_int (by kernel_rfl : Tryz.prog.underlying 3 = some (.int .i64)) (hval 1 3 v1 rfl rfl) h1
 clear hA0 hval0 hsz0 hsz
 have key : Calls Tryz.prog 4 #[.int .i32 z0, .int .i64 z1] W fun e w' => e = .returned (.bool true) ∧ Up W w' := by
  exact St.OrderLong_calls z0 z1 W (St.wf_i32 hz0)
 refine key.mono fun e W' ⟨he, bel⟩ => ?_
 subst he
 exact ⟨_, rfl, _, _, _, [], _, [], hW', trodAll_mk1 (shut_bool Tryz.underlying4 _), (trodAll_cons_mk (Below.trod laidOut (by kernel_rfl) (of_decide_eq_true (by kernel_rfl)) k0 bel lt0) (trodAll_cons_mk (Below.trod laidOut (by kernel_rfl) (of_decide_eq_true (by kernel_rfl)) k1 bel lt1) trodAll_mk0)), rfl, bel.frame _, fun h => by cases h⟩
theorem and2 {a b : Bool} (ha : a = true) (hb : b = true) : (a && b) = true := by rw [ha, hb]; rfl
theorem k1 : Rows.orderLongRow.wf (OpenSpec.ofChange Rows.orderLongSpec) = true := by kernel_rfl
theorem k3 : mapsRowed Tryz.prog = true := by kernel_rfl
theorem k10 : (Rows.orderLongRow.inPlace == Tryz.prog.inPlace 4) = true := by kernel_rfl
theorem k11 : (Rows.orderLongRow.unfollowed == Tryz.prog.unfollowed 4) = true := by kernel_rfl
theorem k12 : (Rows.orderLongRow.recurses == Tryz.prog.recurses 4) = true := by kernel_rfl
theorem k13 : (Rows.orderLongRow.named == Tryz.prog.varsNamed 4) = true := by kernel_rfl
theorem k17 : (Rows.orderLongRow.loops == (Tryz.f4.params.toList ++ Rows.orderLongSpec.plain.varTypes Tryz.prog).any (Tryz.prog.loopsFrom ·)) = true := by kernel_rfl
theorem k18 : (Rows.orderLongRow.wideKeys == (Tryz.f4.params.toList ++ Rows.orderLongSpec.plain.varTypes Tryz.prog ++ Tryz.f4.resultTypes.toList).any (Tryz.prog.wideKeysFrom ·)) = true := by kernel_rfl
theorem k23 : (Rows.orderLongRow.plainKeys == Tryz.prog.plainKeys) = true := by kernel_rfl
theorem k25 : Tryz.prog.stopsHeard = true := by kernel_rfl
theorem k26 : Tryz.prog.mayEnter = true := by kernel_rfl
theorem k27 : (Rows.orderLongRow.lifted == Tryz.prog.liftsFinal) = true := by kernel_rfl
theorem k31 : (Rows.orderLongRow.veiled == (Tryz.f4.params.toList ++ Rows.orderLongSpec.plain.varTypes Tryz.prog ++ Tryz.f4.resultTypes.toList).any (Tryz.prog.veiledRec ·)) = true := by kernel_rfl
theorem k32 : Rows.orderLongRow.veiledFits Tryz.prog Tryz.f4.params.toList (Tryz.f4.params.toList ++ Rows.orderLongSpec.plain.varTypes Tryz.prog ++ Tryz.f4.resultTypes.toList) = true := by kernel_rfl
theorem closed : joinedFacts Tryz.prog 4 Tryz.f4 Rows.orderLongSpec Rows.orderLongRow = true := by
 unfold joinedFacts
 repeat' (with_reducible refine and2 ?_ ?_)
 ·exact k1
 ·exact laidOut
 ·exact k3
 ·kernel_rfl
 ·kernel_rfl
 ·kernel_rfl
 ·kernel_rfl
 ·kernel_rfl
 ·kernel_rfl
 ·exact k10
 ·exact k11
 ·exact k12
 ·exact k13
 ·kernel_rfl
 ·kernel_rfl
 ·kernel_rfl
 ·exact k17
 ·exact k18
 ·kernel_rfl
 ·kernel_rfl
 ·kernel_rfl
 ·kernel_rfl
 ·exact k23
 ·kernel_rfl
 ·exact k25
 ·exact k26
 ·exact k27
 ·kernel_rfl
 ·kernel_rfl
 ·kernel_rfl
 ·exact k31
 ·exact k32
theorem fnamed : Tryz.prog.funcNamed Rows.orderLongRow.func = some 4 := by kernel_rfl
theorem inst : Tryz.f4.isInstance Tryz.prog Rows.orderLongRow.origin Rows.orderLongRow.targs := of_decide_eq_true (by kernel_rfl)
theorem wrap : Tryz.f4.isWrapper Tryz.prog Rows.orderLongRow.wrapper Rows.orderLongRow.mainSum := by
 unfold Func.isWrapper
 first | (rw [if_pos (by decide +kernel)]; kernel_rfl) | (rw [if_neg (by decide +kernel)]; exact ⟨rfl, rfl⟩)
theorem over : Rows.orderLongRow.holds Tryz.pinned (OpenSpec.ofChange Rows.orderLongSpec) :=
 OpenClaim.holds_of_wide 4 Tryz.f4 rfl rfl rfl rfl rfl rfl rfl ⟨rfl, rfl, rfl, rfl, rfl⟩ rfl rfl rfl rfl rfl fnamed Tryz.func4 closed inst wrap
  (fun os started H enc _ => lifted os started H enc)
theorem proved : Rows.OrderLongSaid := over
#print axioms proved
end Go.Proofs.YtnohcnneflogjaaGreat.orderLong
namespace Go.Proofs.YtnohcnneflogjaaGreat
theorem orderLong_holds : Rows.OrderLongSaid := orderLong.proved
end Go.Proofs.YtnohcnneflogjaaGreat
