/- A row of the call's own whose elements are one cell each: its block's cells, and an element put in between. -/
import Derived.Test.YticocjpfhllelaaXP0
import Derived.Laws.CopyOwn
namespace Go.Proofs.Yticocjpfhllelaa.XP
open Go.RowKit Go.Proofs.YticocjpfhllelaaW.PrintWords Go.Proofs.YticocjpfhllelaaW.PrintLast Go.Proofs.YticocjpfhllelaaW.PrintMore

theorem addr_add (g m j : Nat) : (⟨g, m, none⟩ : Addr).add j = ⟨g, m + j, none⟩ := by unfold Addr.add; split <;> simp_all

/-- A return of a struct that lies in memory and of a value. -/
theorem ret_ct {P : Program} {fn : Func} {R : Ending → World → Prop} {a : Act} {w : World} (p u : Tmp) (ty : TypeId) (g : Nat) (t : TypeId) (cs : Array Value) (d : TypeDesc)
    (h : fn.results = #[.cell p ty, .tmp u]) (hd : a.defers = []) (hp : a.tmps.getD p undef = .pointer (some ⟨g, 0, none⟩)) (hg : w.heap[g]? = some (.cells cs t (0, 0)))
    (hu : P.underlying ty = some d) (hs : (match d with | .struct _ | .array _ _ => true | _ => false) = true) (hi : (P.info? ty).map (·.size) = some cs.size)
    (hR : R (.returned (.tuple #[.agg cs, a.tmps.getD u undef])) w) : bodyPost P fn R .ret a w :=
  ⟨hd, _, results_ct h a.tmps w g t cs (0, 0) d hp hg hu hs hi, hR⟩

/-- The built-in copy within a region that draws its order: which row it writes, and that it writes no other one. -/
theorem step_copy_grown {P : Program} {ops : Array Oper} {o : Oper} {a : Act} {w : World} {K : Act → World → Prop} {Q : Exit → Act → World → Prop} {E : Prop} (hgd : o.guard = none) (d s : Operand) (dT sT : TypeId)
    (ho : o.op = .call { callee := .builtin .copy, args := #[d, s], argTypes := #[dT, sT] }) (elem : TypeId) (hu : P.underlying dT = some (.slice elem)) (hsz : (P.info? elem).map (·.size) = some 1)
    (dp sp : Option Addr) (dLen dCap sLen sCap : Nat) (hd : a.eval d = .slice dp dLen dCap) (hs : a.eval s = .slice sp sLen sCap)
    (g off : Nat) (cur : List Value) (t : TypeId) (hg : w.heap[g]? = some (.cells cur.toArray t (0, 0))) (cs : List Value) (hn : cs.length = Nat.min sLen dLen)
    (hpos : 0 < cs.length → dp = some ⟨g, off, none⟩ ∧ ∃ ad, sp = some ad ∧ ∀ j v, cs[j]? = some v → w.cell? (ad.add j) = some v)
    (hfit : off + cs.length ≤ cur.length) (h1 : ∀ v ∈ cs, v.oneCell' = true)
    (h : ∀ w', Aside0 (w'.heap[g]? = some (.cells (splice cur off cs).toArray t (0, 0))) → Aside0 (w.grownBy w' (some g)) → K (a.put o.dst (goInt cs.length)) w') :
    if Region.wanted o (yielded ops a.tmps) = true then Oper.wp P o a w K Q else E := by
  have hw : Region.wanted o (yielded ops a.tmps) = true := by simp [Region.wanted, hgd]
  rw [if_pos hw]
  by_cases h0 : cs.length = 0
  · obtain rfl : cs = [] := List.eq_nil_of_length_eq_zero h0
    have hrun := run_copy_none (P := P) w dT sT o.type elem dp sp dLen dCap sLen sCap hu hsz (by simpa using hn.symm)
    unfold Oper.wp
    simp [execOp, ho, resolve, invoke, builtin, hd, hs, hrun, Result.andThen]
    exact h w ⟨by simpa [splice] using hg⟩ ⟨rfl, rfl, rfl, Nat.le_refl _, fun _ _ _ => rfl⟩
  · obtain ⟨rfl, ad, rfl, hsrc⟩ := hpos (by omega)
    have hrun := run_copy_row (P := P) w dT sT o.type elem g off dLen dCap ad sLen sCap cur.toArray t cs hu hsz hg hn hsrc (by simpa using hfit) h1
    unfold Oper.wp
    simp [execOp, ho, resolve, invoke, builtin, hd, hs, hrun, Result.andThen]
    exact h _ ⟨by simpa [splice] using setRow_heap w g _ _ t _ hg⟩ ⟨rfl, rfl, rfl, by simp [World.setRow], fun k hk hne => setRow_other w g k _ (by simpa using hne)⟩

theorem splice_ins {β : Type} (L X : List β) (m : Nat) (z u : β) (hm : m ≤ X.length) (ht : L.take (X.length + 1) = X ++ [z]) :
    ((splice L (m + 1) (X.drop m)).set m u).take (X.length + 1) = X.take m ++ u :: X.drop m := by
  obtain ⟨A, B, rfl, hA⟩ : ∃ A B, X = A ++ B ∧ A.length = m := ⟨X.take m, X.drop m, (List.take_append_drop m X).symm, by rw [List.length_take]; omega⟩
  subst hA
  obtain ⟨b0, B', hb⟩ : ∃ b0 B', B ++ [z] = b0 :: B' := by cases B with | nil => exact ⟨z, [], rfl⟩ | cons b B => exact ⟨b, B ++ [z], rfl⟩
  have hL : L = A ++ b0 :: (B' ++ L.drop ((A ++ B).length + 1)) := by
    have h0 := (List.take_append_drop ((A ++ B).length + 1) L).symm
    rw [ht] at h0
    have h1 : A ++ B ++ [z] = A ++ b0 :: B' := by rw [List.append_assoc, hb]
    rw [h1] at h0
    refine h0.trans ?_
    simp
  rw [hL]
  generalize B' ++ L.drop ((A ++ B).length + 1) = S
  simp [splice, List.take_append]
  rw [show A.length + B.length + 1 - A.length = B.length + 1 by omega, List.take_of_length_le (l := A) (by omega), List.take_of_length_le (l := A) (by omega)]
  simp

section
variable {α : Type} {enc : α → Value} {h1 : ∀ x, (enc x).oneCell' = true} {e : Nat} {w : World} {base : Nat} {ok : Nat → Prop} {v : Value} {xs : List α}

/-- The block of a row that has an element. -/
structure RowAt (w : World) (base e : Nat) (ok : Nat → Prop) (g n cap : Nat) (cur : Array Value) (cs : List Value) : Prop where
  base_le : base ≤ g
  ok_g : ok g
  heap : w.heap[g]? = some (.cells cur e (0, 0))
  le : n ≤ cap
  max : cap ≤ maxLen
  size : cur.size = cap
  take : cur.toList.take n = cs

theorem row_at (h : (Kd.scalar enc h1).R e w base ok v xs) (hp : 0 < xs.length) :
    ∃ g cap cur, v = .slice (some ⟨g, 0, none⟩) xs.length cap ∧ RowAt w base e ok g xs.length cap cur (encs enc xs) := by
  obtain ⟨hx, h4⟩ := Kd.own_of_R h
  rcases h4 with ⟨_, h4⟩ | ⟨g, cap, cur, ev, hg, hcur, hnc, hcm, hsz, htk⟩
  · omega
  · exact ⟨g, cap, cur, ev, hg, h.1 g (by rw [ev]; rfl), hcur, hnc, hcm, by omega, by rw [← htk, Nat.mul_one]⟩

theorem RowAt.cell {g n cap : Nat} {cur : Array Value} {cs : List Value} (h : RowAt w base e ok g n cap cur cs) (j : Nat) (u : Value) (hj : cs[j]? = some u) : w.cell? ⟨g, j, none⟩ = some u := by
  rw [blk_cell h.heap j, ← Array.getElem?_toList]
  have hlt : j < cs.length := (List.getElem?_eq_some_iff.1 hj).1
  rw [← h.take] at hj hlt
  rw [List.getElem?_take_of_lt] at hj
  · exact hj
  · rw [List.length_take] at hlt; omega

/-- The row with x in the place m: all behind it stands one further. -/
theorem RowAt.insert {w1 : World} {g cap m : Nat} {cur : Array Value} {z x : α} (h : RowAt w base e ok g (xs.length + 1) cap cur (encs enc (xs ++ [z]))) (hm : m ≤ xs.length)
    (hw : w1.heap[g]? = some (.cells ((splice cur.toList (m + 1) (encs enc (xs.drop m))).toArray.setIfInBounds m (enc x)) e (0, 0))) :
    (Kd.scalar enc h1).R e w1 base ok (.slice (some ⟨g, 0, none⟩) (xs.length + 1) cap) (xs.take m ++ x :: xs.drop m) := by
  have hl : (xs.take m ++ x :: xs.drop m).length = xs.length + 1 := by simp; omega
  have hcl : (encs enc (xs.drop m)).length = xs.length - m := by simp [encs]
  have hcur : cur.toList.length = cap := by rw [Array.length_toList, h.size]
  have hle := h.le
  have hfit : m + 1 + (encs enc (xs.drop m)).length ≤ cur.toList.length := by rw [hcl, hcur]; omega
  have hsp := length_splice cur.toList (m + 1) (encs enc (xs.drop m)) hfit
  refine Kd.R_of_own ⟨by simp [encs], .inr ⟨g, cap, _, by rw [hl], h.base_le, hw, by rw [hl]; exact hle, h.max, ?_, ?_⟩⟩ (fun k hk => ?_)
  · rw [Array.size_setIfInBounds, List.size_toArray, hsp, hcur, Nat.mul_one]
  · have hs := splice_ins cur.toList (xs.map enc) m (enc z) (enc x) (by simpa using hm) (by have := h.take; simp only [encs, List.map_append, List.map_cons, List.map_nil] at this; rw [List.length_map]; exact this)
    rw [List.length_map] at hs
    rw [hl, Nat.mul_one]
    unfold encs
    rw [List.map_append, List.map_take, List.map_cons, List.map_drop]
    simpa using hs
  · injection hk with hk
    subst hk
    exact h.ok_g
end
end Go.Proofs.Yticocjpfhllelaa.XP
