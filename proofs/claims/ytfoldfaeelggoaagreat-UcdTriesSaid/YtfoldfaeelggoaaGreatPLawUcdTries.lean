/- Proved: UcdTries, for every table, property and numbers: the trie of each property tells what the document says. Conditions: none beyond the statement's own. -/
import Derived.Test.YtfoldfaeelggoaaGreatRows
import Derived.Test.YtfoldfaeelggoaaGreatK37
import Derived.Test.YtfoldfaeelggoaaGreatPTried
set_option linter.unusedVariables false
set_option linter.unusedSimpArgs false
namespace Go.Proofs.YtfoldfaeelggoaaGreat.ucdTries
open Go.RowKit Go.ChangeShapes Go.WideShapes Go.ChangeAt M
theorem own : ownKnob Tryz.prog.godebug = none := by kernel_rfl
theorem laidOut : laidOutB Tryz.prog = true := by kernel_rfl
set_option maxRecDepth 100000 in
theorem lifted (os : Os) (started : os.Started) (H : Type) (enc : TypeId × Value → H) :
    ReturnsInHanded {} Tryz.checked os 8 .any (Rows.ucdTriesSpec.pre6 enc Tryz.prog Tryz.f8 Rows.ucdTriesRow.domain false) (Rows.ucdTriesSpec.post enc Tryz.prog Tryz.f8 false true false false) := by
  refine returnsInHanded_of_change_sized (C := Tryz.checked) own started (by kernel_rfl) Tryz.func8
    (ChangeSpec.witness6 (enc := enc) (C := Tryz.checked) false ⟨#[], #[.slice none 0 0, .int .i64 0, .slice none 0 0], []⟩ 8 (by kernel_rfl) (by kernel_rfl) (by kernel_rfl) (by kernel_rfl)) ?_
  intro W base args ds gs before hval0 hW hcnd hsz0 _
  have hsz : (DataW.weightsEach Tryz.prog (Tryz.f8.params.toList ++ Rows.ucdTriesSpec.plain.varTypes Tryz.prog) (ds ++ gs)).all (· ≤ reachBytes) = true := hsz0
  have hval : ∀ (j : Nat) t v, Tryz.f8.params[j]? = some t → args[j]? = some v → Value.okWide Tryz.prog W .any base t v := hval0
  have hW' := hW
  obtain ⟨p, q, hA0, hV, rfl, hfz, hnd⟩ := hW
  have hA : DataW.TrodAll enc Tryz.prog W 0 (fun _ => true) true Tryz.f8.params.toList args.toList ds p := hA0
  rw [Tryz.params8] at hA hval hsz
  obtain ⟨v0, vs0, d0, ds0, p0, q0, hargs, rfl, rfl, h0, r0⟩ := trodAll_cons hA
  obtain ⟨v1, vs1, d1, ds1, p1, q1, hargs1, rfl, rfl, h1, r1⟩ := trodAll_cons r0
  obtain ⟨v2, vs2, d2, ds2, p2, q2, hargs2, rfl, rfl, h2, r2⟩ := trodAll_cons r1
  obtain ⟨rfl, rfl, rfl⟩ := trodAll_nil r2
  subst hargs2
  subst hargs1
  obtain rfl : args = #[v0, v1, v2] := by cases args; simp_all
  obtain ⟨rfl, rfl⟩ := trodVars_none hV
  obtain ⟨a0, len0, cap0, rfl⟩ := okWide_slice Tryz.underlying22 (hval 0 22 v0 rfl rfl)
  have k0 := h0
  have k1 := h1
  have k2 := h2
  have lt0 : ∀ x ∈ p0, x.block < W.heap.size := by obtain ⟨m, hm⟩ := k0; exact DataW.trod_lt m _ _ _ hm
  have lt1 : ∀ x ∈ p1, x.block < W.heap.size := by obtain ⟨m, hm⟩ := k1; exact DataW.trod_lt m _ _ _ hm
  have lt2 : ∀ x ∈ p2, x.block < W.heap.size := by obtain ⟨m, hm⟩ := k2; exact DataW.trod_lt m _ _ _ hm
  obtain ⟨T, hTl, hlc, hcm, hWf, hT⟩ := open_records h0 (fun n hn => by simpa using List.all_eq_true.1 hsz _ (DataW.weights_mem_each (j := 0) rfl rfl n hn))
  subst hTl
  obtain ⟨z1, rfl, _⟩ := open_int (by kernel_rfl : Tryz.prog.underlying 3 = some (.int .i64)) (hval 1 3 v1 rfl rfl) h1
  obtain ⟨a2, c2, l2, rfl, hl2, hc2, hI2, hw2, hb2⟩ := open_row (by kernel_rfl : Tryz.prog.underlying 72 = some (.slice 3)) (by kernel_rfl : Tryz.prog.underlying 3 = some (.int .i64)) (by kernel_rfl) (hval 2 72 v2 rfl rfl) h2 (fun n hn => by simpa using List.all_eq_true.1 hsz _ (DataW.weights_mem_each (j := 2) rfl rfl n hn))
  rw [show Tryz.prog.bytesOf 3 = 8 by kernel_rfl] at hb2
  have hs2 : l2.length < 4611686018427387904 := by omega
  clear hA0 hval0 hsz0 hsz
  have key : Calls Tryz.prog 8 #[.slice a0 T.length cap0, .int .i64 z1, .slice a2 l2.length c2] W fun e w' => e = .returned (.bool true) ∧ Up W w' := by
    rcases Int.decEq (checkE (T.take 150)).2 0 with h | h
    · exact UcdTries_no a0 cap0 T z1 a2 _ c2 W hT hWf hlc h
    · exact UcdTries_yes a0 cap0 T _ z1 a2 l2 c2 W rfl hT hWf hlc h hI2 hs2
  refine key.mono fun e W' ⟨he, bel⟩ => ?_
  subst he
  exact ⟨_, rfl, _, _, _, [], _, [], hW', trodAll_mk1 (shut_bool Tryz.underlying4 _), (trodAll_cons_mk (Below.trod laidOut (by kernel_rfl) (of_decide_eq_true (by kernel_rfl)) k0 bel lt0) (trodAll_cons_mk (Below.trod laidOut (by kernel_rfl) (of_decide_eq_true (by kernel_rfl)) k1 bel lt1) (trodAll_cons_mk (Below.trod laidOut (by kernel_rfl) (of_decide_eq_true (by kernel_rfl)) k2 bel lt2) trodAll_mk0))), rfl, bel.frame _, fun h => by cases h⟩
theorem over : Rows.ucdTriesRow.holds Tryz.pinned (OpenSpec.ofChange Rows.ucdTriesSpec) :=
  OpenClaim.holds_of_wide 8 Tryz.f8 rfl rfl rfl rfl rfl rfl rfl ⟨rfl, rfl, rfl, rfl, rfl⟩ rfl rfl rfl rfl rfl (by kernel_rfl) Tryz.func8 (by kernel_rfl)
    (of_decide_eq_true (by kernel_rfl)) (by unfold Func.isWrapper; first | (rw [if_pos (by decide +kernel)]; kernel_rfl) | (rw [if_neg (by decide +kernel)]; exact ⟨rfl, rfl⟩))
    (fun os started H enc _ => lifted os started H enc)
theorem proved : Rows.UcdTriesSaid := over
#print axioms proved
end Go.Proofs.YtfoldfaeelggoaaGreat.ucdTries
namespace Go.Proofs.YtfoldfaeelggoaaGreat
/-- The row, under a short name, for the claim. -/
theorem ucdTries_holds : Rows.UcdTriesSaid := ucdTries.proved
end Go.Proofs.YtfoldfaeelggoaaGreat
