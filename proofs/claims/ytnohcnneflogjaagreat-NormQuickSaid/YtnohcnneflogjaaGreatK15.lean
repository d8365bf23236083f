/- The trie of ranges that do not meet, in whatever order they come. -/
import Derived.Test.YtnohcnneflogjaaGreatK13
import Derived.Test.YtnohcnneflogjaaGreatK14
import Derived.Test.YtnohcnneflogjaaGreatK09
import Derived.Test.YtnohcnneflogjaaGreatK03
import Derived.Deep.RegionHeld3
set_option maxHeartbeats 8000000
set_option linter.unusedVariables false
set_option linter.unusedSimpArgs false
namespace Go.Proofs.YtnohcnneflogjaaGreat.M
open Go.Shelf Go.RowKit Go.Lib Go.Sort
def rngsC (L : List Rng) : List Value := L.flatMap encRng
theorem rngsC_length (L : List Rng) : (rngsC L).length = L.length * 3 := by
 induction L with
 | nil => rfl
 | cons r L ih =>
   show (encRng r ++ rngsC L).length = _
   rw [List.length_append, ih, List.length_cons]
   show 3 + _ = _
   omega
theorem rngsC_get (L : List Rng) : ∀ (q j : Nat) (r : Rng), L[q]? = some r → j < 3 → (rngsC L)[q * 3 + j]? = (encRng r)[j]? := by
 induction L with
 | nil => intro q j r h; simp at h
 | cons a L ih =>
   intro q j r h hj
   show (encRng a ++ rngsC L)[q * 3 + j]? = _
   cases q with
   | zero =>
     simp only [List.getElem?_cons_zero, Option.some.injEq] at h
     subst h
     rw [List.getElem?_append_left (by show _ < 3; omega)]
     congr 1
     omega
   | succ q =>
     rw [List.getElem?_append_right (by show 3 ≤ _; omega)]
     rw [show (q + 1) * 3 + j - (encRng a).length = q * 3 + j by show _ - 3 = _; omega]
     exact ih q j r (by simpa using h) hj
theorem rngs_of_holds {w : World} {g : Nat} {d : Array Rng} (h : HoldsK encRng 3 w g 0 d) : Rngs w (some ⟨g, 0, none⟩) d.toList := by
 intro i r hr
 have hi : i < d.size := by
  have := (List.getElem?_eq_some_iff.1 hr).1
  simpa using this
 have he : d[i]! = r := by
  rw [getElem!_pos d i hi]
  have := (List.getElem?_eq_some_iff.1 hr).2
  simpa using this
 refine ⟨_, rfl, ?_⟩
 have hadd : (⟨g, 0, none⟩ : Addr).add (i * 3) = ⟨g, i * 3, none⟩ := by unfold Addr.add; split <;> simp_all
 rw [hadd]
 have c0 := (h.cell (i := i) (c := 0) hi (by omega)).1
 have c1 := (h.cell (i := i) (c := 1) hi (by omega)).1
 have c2 := (h.cell (i := i) (c := 2) hi (by omega)).1
 rw [he] at c0 c1 c2
 rw [Nat.zero_add] at c0 c1 c2
 exact ⟨c0, c1, c2⟩
theorem holds_of_own {w : World} {g : Nat} {L : List Rng} {cur : Array Value} {e : TypeId} (hh : w.heap[g]? = some (.cells cur e (0, 0))) (ht : cur.toList.take (L.length * 3) = rngsC L) : HoldsK encRng 3 w g 0 L.toArray := by
 intro j hj
 have hj' : j < L.length * 3 := by simpa using hj
 refine ⟨?_, by simp [World.frozen?, hh]⟩
 rw [Nat.zero_add, cell_of_row w g j _ _ _ hh]
 have h1 : cur[j]? = (rngsC L)[j]? := by
  rw [← ht, List.getElem?_take, if_pos hj']
  simp
 have hq : j / 3 < L.length := by omega
 have h2 := rngsC_get L (j / 3) (j % 3) L[j / 3] (List.getElem?_eq_getElem hq) (Nat.mod_lt _ (by decide))
 rw [show j / 3 * 3 + j % 3 = j by omega] at h2
 rw [h1, h2]
 show _ = some (id (flatK encRng 3 L.toArray)[j]!)
 rw [id, get_flatK encRng 3 L.toArray j (by simpa using hj')]
 have h3 : L.toArray[j / 3]! = L[j / 3] := by rw [getElem!_pos _ _ (by simpa using hq)]; simp
 rw [h3]
 have h4 : j % 3 < (encRng L[j / 3]).length := Nat.mod_lt _ (by decide)
 rw [List.getElem?_eq_getElem h4]
 exact congrArg some (getElem!_pos (encRng (L[j / 3])) (j % 3) h4).symm
theorem chg_grow {M : Nat → Prop} (w : World) (os : Array Obj) : Chg M w (grow w os) := ⟨rfl, rfl, rfl, by simp, fun k hk _ => heap_grow_old w os hk⟩
theorem chg_put (w : World) (n g : Nat) (d : Array Rng) (os : Array Obj) : Chg (fun k => k = g) w (grow (putRowK encRng 3 (Sort.ahead w n) g 0 d) os) := by
 have h1 : Chg (fun k => k = g) w (putRowK encRng 3 (Sort.ahead w n) g 0 d) := by
  refine ⟨rfl, rfl, rfl, by simp [putRowK, putRow, mapBlock, Sort.ahead], fun k hk hn => ?_⟩
  show ((Sort.ahead w n).heap.modify g _)[k]? = _
  rw [Array.getElem?_modify, if_neg (fun e => hn e.symm)]
  rfl
 exact h1.trans (chg_grow (M := fun k => k = g) _ _) (fun k hk => .inl hk)
theorem sort_row (base : Nat) (v : Value) (L : List Rng) (W : World) (Bs : Nat) (hown : W.ownsRow base 175 3 v L.length (rngsC L)) (hA : Apart L) (hlen : L.length ≤ 1073741824) (hBs : W.cell? ⟨Bs, 0, none⟩ = some v) (hb1 : Bs < W.heap.size) (hb2 : v.ownBlock ≠ some Bs) :
 Calls Tryz.prog 187 #[.iface 173 v, .func (.func 188) #[] #[.pointer (some ⟨Bs, 0, none⟩)]] W fun e w' => e = .returned (.tuple #[]) ∧ ∃ L' Ax cx, v = .slice Ax L'.length cx ∧ Rngs w' Ax L' ∧ Ordered L' ∧ (∀ d c, valR L' d c = valR L d c) ∧ L'.length = L.length ∧ L'.length ≤ cx ∧ (Ax = none → cx = 0) ∧ Chg (fun k => v.ownBlock = some k) W w' := by
 have tiny : L.length ≤ 1 → Ordered L := fun h => hA.ordered (List.Perm.refl _) (fun i j a b hij ha hb => by
  have := (List.getElem?_eq_some_iff.1 hb).1
  omega)
 rcases hown.2 with ⟨rfl, hn⟩ | ⟨g, cap, cur, rfl, hg, hh, hcap, hmax, hcs, ht⟩
 ·refine (sort_tiny none 0 0 (by omega) _ W).mono ?_
  rintro e w' ⟨rfl, os, rfl⟩
  have hL : L = [] := List.eq_nil_of_length_eq_zero hn
  subst hL
  exact ⟨rfl, [], none, 0, rfl, fun i r hr => by simp at hr, tiny (by simp), fun _ _ => rfl, rfl, Nat.le_refl _, fun _ => rfl, chg_grow _ _⟩
 ·have hH := holds_of_own hh ht
  have hlt : g < W.heap.size := (Array.getElem?_eq_some_iff.1 hh).1
  by_cases h2 : L.length ≤ 1
  ·refine (sort_tiny (some ⟨g, 0, none⟩) L.length cap h2 _ W).mono ?_
   rintro e w' ⟨rfl, os, rfl⟩
   refine ⟨rfl, L, some ⟨g, 0, none⟩, cap, rfl, ?_, tiny h2, fun _ _ => rfl, rfl, hcap, fun h => (by cases h), chg_grow _ _⟩
   have := rngs_of_holds (holdsK_grow _ _ W os g 0 _ hlt hH)
   simpa using this
  ·have hsz : L.toArray.size = L.length := by simp
   have hc := sort_calls g 0 cap Bs L.toArray (by omega) (by omega) W hH hlt (by rw [hsz]; exact hBs) hb1 (fun e => hb2 (by rw [e]; rfl))
   rw [hsz] at hc
   refine hc.mono ?_
   rintro e w' ⟨rfl, d', n, os, hp, hs, rfl⟩
   have hds : d'.size = L.length := by rw [hp.1, hsz]
   have hperm : d'.toList.Perm L := by
    have := hp.2.2
    rw [show d'.extract 0 L.length = d' by rw [← hds]; exact Array.extract_size, show L.toArray.extract 0 L.length = L.toArray by rw [← hsz]; exact Array.extract_size] at this
    simpa using this
   have hlt' : g < (Sort.ahead W n).heap.size := hlt
   have hH' : HoldsK encRng 3 (grow (putRowK encRng 3 (Sort.ahead W n) g 0 d') os) g 0 d' := by
    rw [← putRowK_grow _ _ _ os g 0 d' hlt']
    exact holdsK_putRowK _ _ _ g 0 L.toArray d' (holdsK_grow _ _ _ os g 0 _ hlt' (holdsK_ahead _ _ W n g 0 _ hH)) (by rw [hds, hsz])
   have hdl : d'.toList.length = L.length := by rw [Array.length_toList, hds]
   refine ⟨rfl, d'.toList, some ⟨g, 0, none⟩, cap, by rw [hdl], rngs_of_holds hH', hA.ordered hperm ?_, valR_same hA (fun r => hperm.mem_iff), hdl, by rw [hdl]; exact hcap, fun h => (by cases h), (chg_put W n g d' os).mono (fun k hk => by rw [hk]; rfl)⟩
   intro i j a b hij ha hb
   have hi := (List.getElem?_eq_some_iff.1 ha)
   have hj := (List.getElem?_eq_some_iff.1 hb)
   have hjs : j < d'.size := by simpa using hj.1
   have his : i < d'.size := by simpa using hi.1
   have h := hs i j (Nat.zero_le _) hij (by omega)
   rw [getElem!_pos d' j hjs, getElem!_pos d' i his] at h
   have e1 : d'[i] = a := by simpa using hi.2
   have e2 : d'[j] = b := by simpa using hj.2
   rw [e1, e2] at h
   unfold ltRng at h
   simp at h
   omega
theorem built_calls (base : Nat) (v : Value) (L : List Rng) (w : World) (hown : w.ownsRow base 175 3 v L.length (rngsC L)) (hA : Apart L) (hlen : L.length ≤ 1073741824) :
 Calls Tryz.prog 160 #[v] w fun e w' => ∃ b, e = .returned (.pointer (some ⟨b, 0, none⟩)) ∧ TrieFrom w.heap.size w' b (valR L 0) ∧ Chg (fun k => v.ownBlock = some k) w w' := by
 obtain ⟨Av, cv, rfl⟩ := own_any hown
 have HO := Az.mk hown
 have HB : (w.alloc (.cells #[.slice Av L.length cv] 173)).cell? ⟨w.heap.size, 0, none⟩ = some (.slice Av L.length cv) := by go_simp
 have hne : (Value.slice Av L.length cv).ownBlock ≠ some w.heap.size := fun e => by have := (hown.lt _ e).2; omega
 have hs := sort_row base (.slice Av L.length cv) L (w.alloc (.cells #[.slice Av L.length cv] 173)) w.heap.size (hown.alloc _) hA hlen HB (by simp) hne
 have HS := Az.mk hs
 have HNE := Az.mk hne
 have HBA := Az.mk HB
 clear hown hs hne HB
 go_enter Tryz.func160, Tryz.ntmps160
 go_wp2_with (first | (go_at_call 187; (with_reducible refine (HS.out).mono ?_); rintro e w1 ⟨rfl, L', Ax, cx, hvx, hR, hOL, hval, hll, hcap, hnil, hchg⟩; have hcell : w1.cell? ⟨w.heap.size, 0, none⟩ = some (.slice Av L.length cv) := (World.cell?_of_block (hchg.block w.heap.size (by simp) HNE.out)).trans HBA.out; have HR := Az.mk hR; have HOL := Az.mk hOL; have HCH := Az.mk hchg; have HVX := Az.mk hvx; have HLL := Az.mk hll; have HCAP := Az.mk hcap; have HNIL := Az.mk hnil; have HVAL := Az.mk hval; clear hR hOL hchg hvx hll hcap hnil hval) | (go_at_call 189; rw [HVX.out]; (with_reducible refine (Build_calls Ax cx L' _ HR.out HOL.out (by have := HLL.out; omega) HCAP.out HNIL.out).mono ?_); rintro e w2 ⟨b, rfl, htr, hup⟩))
 go_ret
 refine ⟨b, rfl, ?_, ?_⟩
 ·have : valR L' 0 = valR L 0 := funext (fun c => HVAL.out 0 c)
  rw [← this]
  exact htr.mono (Nat.le_trans (by simp) HCH.out.size)
 ·exact ((Chg.of_up (M := fun k => (Value.slice Av L.length cv).ownBlock = some k) (up_alloc (up_refl w) (.cells #[.slice Av L.length cv] 173))).trans HCH.out (fun k hk => .inl hk)).trans (Chg.of_up (M := fun k => (Value.slice Av L.length cv).ownBlock = some k) hup) (fun k hk => .inl hk)
end Go.Proofs.YtnohcnneflogjaaGreat.M
namespace Go.Proofs.YtnohcnneflogjaaGreat.M
open Go.RowKit
def rngsOf (f : Nat → Int) : Nat → List Rec → List Rng
 | _, [] => []
 | j, x :: r => ⟨x.lo, x.hi, f j⟩ :: rngsOf f (j + 1) r
theorem rngsOf_append (f : Nat → Int) : ∀ (P : List Rec) (j : Nat) (x : Rec), rngsOf f j (P ++ [x]) = rngsOf f j P ++ [⟨x.lo, x.hi, f (j + P.length)⟩]
 | [], j, x => by simp [rngsOf]
 | y :: P, j, x => by
   show _ :: rngsOf f (j + 1) (P ++ [x]) = _ :: rngsOf f (j + 1) P ++ _
   rw [rngsOf_append f P (j + 1) x, List.length_cons, show j + 1 + P.length = j + (P.length + 1) by omega]
   rfl
theorem rngsOf_length (f : Nat → Int) : ∀ (P : List Rec) (j : Nat), (rngsOf f j P).length = P.length
 | [], j => rfl
 | y :: P, j => by
   show (rngsOf f (j + 1) P).length + 1 = _
   rw [rngsOf_length f P (j + 1)]
   rfl
theorem rngsC_append (L : List Rng) (r : Rng) : rngsC (L ++ [r]) = rngsC L ++ encRng r := by simp [rngsC]
structure Clos (P : List Rec) (f : Nat → Int) (g : Nat) (lb : Array Value) (I : Nat → World → (Nat → Prop) → Prop) : Prop where
 lt : ∀ {j w S}, I j w S → ∀ k, S k → k < w.heap.size
 st : ∀ {j w w' S M}, I j w S → Chg M w w' → (∀ k, S k → ¬ M k) → I j w' S
 call : ∀ {j w S x} (A c), I j w S → P[j]? = some x → Calls Tryz.prog g (#[recV x A c] ++ lb) w fun e w' => e = .returned (.int .i64 (f j)) ∧ ∃ S', I (j + 1) w' S' ∧ Chg S w w' ∧ ∀ k, S' k → S k ∨ w.heap.size ≤ k
theorem rngInfo : (Tryz.prog.info? 175).map (fun i => (i.zero.map (fun z => z.cells.size), i.size, i.bytes)) = some (some 3, 3, 24) := by kernel_rfl
theorem rng_info : ∃ (i : TypeInfo) (z : Value), Tryz.prog.info? 175 = some i ∧ i.zero = some z ∧ i.size = 3 ∧ i.bytes = 24 ∧ z.cells.size = 3 := by
 have h := rngInfo
 cases hq : Tryz.prog.info? 175 with
 | none => rw [hq] at h; cases h
 | some i =>
   rw [hq] at h
   simp only [Option.map_some, Option.some.injEq, Prod.mk.injEq] at h
   cases hz : i.zero with
   | none => rw [hz] at h; cases h.1
   | some z =>
     rw [hz] at h
     simp only [Option.map_some, Option.some.injEq] at h
     exact ⟨i, z, rfl, hz, h.2.1, h.2.2, h.1⟩
theorem take_filter_succ {T : List Rec} {i : Nat} {x : Rec} (hx : T[i]? = some x) (p : Rec → Bool) : (T.take (i + 1)).filter p = if p x then (T.take i).filter p ++ [x] else (T.take i).filter p := by
 rw [List.take_add_one, hx, Option.toList_some, List.filter_append]
 cases h : p x <;> simp [h]
theorem filter_at {T : List Rec} {i : Nat} {x : Rec} (hx : T[i]? = some x) (p : Rec → Bool) (hp : p x = true) : (T.filter p)[((T.take i).filter p).length]? = some x := by
 have h1 : T = T.take i ++ x :: T.drop (i + 1) := by
  have hi : i < T.length := (List.getElem?_eq_some_iff.1 hx).1
  have he : T[i] = x := (List.getElem?_eq_some_iff.1 hx).2
  conv => lhs; rw [← List.take_append_drop i T, List.drop_eq_getElem_cons hi, he]
 conv => lhs; arg 1; rw [h1, List.filter_append, List.filter_cons_of_pos (by simpa using hp)]
 rw [List.getElem?_append_right (Nat.le_refl _), Nat.sub_self]
 rfl
end Go.Proofs.YtnohcnneflogjaaGreat.M
