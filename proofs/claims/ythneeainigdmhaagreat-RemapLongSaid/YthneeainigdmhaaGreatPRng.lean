/- A range over a function whose iterator hands over a known row of things, each with a fresh row of numbers beside it. -/
import Derived.Test.YthneeainigdmhaaGreatPParts
import Derived.RangeFuncNested
import Derived.RangeFuncBound
import Derived.RangeFuncCalls
import Derived.RangeFuncLeaves
import Derived.Shelf.Abstract
import Derived.Shelf.RegionOpen
import Derived.WalkKit
import Derived.OwnWalkIn
import Derived.TacticsInMore
import Derived.LoopNIn
import Derived.LoopIn
import Derived.Maps.OwnIn
set_option linter.unusedVariables false
set_option linter.unusedSimpArgs false
namespace Go.Proofs.YthneeainigdmhaaGreat.M
open Go.RowKit
set_option maxHeartbeats 8000000

/-- It holds on where the world grows. -/
def Grows (I : World → Prop) : Prop := ∀ W W', I W → Up W W' → I W'
/-- It holds on where something that is no cells, from B on, is turned. -/
def Turns (B : Nat) (I : World → Prop) : Prop := ∀ W l o o', I W → B ≤ l → W.heap[l]? = some o → o.isCells = false → I (W.putObj l o')
/-- The row that comes with a round. -/
def Given (r : List Int) (v : Value) (base : Nat) (W : World) : Prop := W.ownsRow base 21 1 v r.length (r.map (Value.int .i32))
/-- How a round's body may be left. -/
def roundEnd (I : Nat → World → Prop) (Ix : Code → World → Prop) (k : Nat) (W : World) : Exit → Act → World → Prop
  | .normal, _, W' => KeepsOthers W W' ∧ I k W'
  | .ret, _, W' => KeepsOthers W W' ∧ Ix .ret W'
  | .exit id, _, W' => KeepsOthers W W' ∧ Ix (.exit id) W'
  | .goto t, _, W' => KeepsOthers W W' ∧ Ix (.goto t) W'
  | .panic _, _, _ => False
  | .outgrown, _, _ => False

/-- **An iterator's word**: N rounds; in the k-th one it hands over 'enc k v', where v owns the row r k, which it has just made; between two rounds it asks for Inv. -/
def IterN (P : Program) (n : Nat) (gf : Nat) (lb : Array Value) (N : Nat) (enc : Nat → Value → Array Value) (r : Nat → List Int) (Inv : World → Prop) : Prop :=
  ∀ (l : Nat) (J : Nat → World → Prop) (Jx : World → Prop) (W : World), (∀ k W, J k W → Inv W) → (∀ k, Grows (J k)) →
    (∀ k v W0 W1, k < N → J k W0 → Up W0 W1 → Given (r k) v W0.heap.size W1 → YieldAt Fence.wide (n - 1) P l (enc k v) W1 fun e W' =>
      (e = .returned (.bool true) ∧ J (k + 1) W') ∨ (e = .returned (.bool false) ∧ Jx W')) →
    J 0 W →
    CallsIn Fence.wide n P gf (#[.func (.yield l) #[] #[]] ++ lb) W fun e W' => (∃ v, e = .returned v) ∧ (J N W' ∨ Jx W')

theorem up_same {w w' : World} (h : Up w w') {k : Nat} {o : Obj} (hk : w.heap[k]? = some o) : w'.heap[k]? = some o := (h.block k (Array.getElem?_eq_some_iff.1 hk).1).trans hk
theorem up_putObj {w w' : World} (h : Up w w') (l : Nat) (o : Obj) : Up (w.putObj l o) (w'.putObj l o) := by
  refine ⟨h.os, h.tape, h.output, by simpa using h.size, fun k hk => ?_⟩
  rw [World.putObj_size] at hk
  by_cases e : k = l
  · subst e
    rw [World.putObj_heap_same hk, World.putObj_heap_same (Nat.lt_of_lt_of_le hk h.size)]
  · rw [World.putObj_heap_other e, World.putObj_heap_other e]
    exact h.block k hk

/-- **The statement 'for .. := range f { .. }' over such an iterator.** -/
theorem wpIn_rangeR {P : Program} {n : Nat} {g : Operand} {ps : Array Tmp} {assign body : Code} {Q : Exit → Act → World → Prop} {a : Act} {w : World}
    {gf : Nat} {lb : Array Value} (hg : a.eval g = .func (.func gf) #[] lb) (eg : ∀ args w, (callFunc gf args).run P w = .ok (.enter gf args) w)
    {N : Nat} {enc : Nat → Value → Array Value} {r : Nat → List Int} {Inv : World → Prop} (hseq : IterN P (n - 1) gf lb N enc r Inv) (hps : ∀ k v, (enc k v).size = ps.size)
    (I : Nat → World → Prop) (Ix : Code → World → Prop) (hInv : ∀ k W, I k W → Inv W) (hIg : ∀ k, Grows (I k)) (hIt : ∀ k, Turns w.heap.size (I k)) (hIxt : ∀ c, Turns w.heap.size (Ix c)) (h0 : I 0 w)
    (hround : ∀ (l k : Nat) (v : Value) (W Wb W0 : World), k < N → I k W0 → Up W0 Wb → Given (r k) v W0.heap.size Wb →
      assign.wpIn (Fence.wide.inRound l) (n - 1 - 1) P (Exit.then (fun a₁ w₁ => w₁ = W ∧ body.wpIn (Fence.wide.inRound l) (n - 1 - 1) P (roundEnd I Ix (k + 1) Wb) a₁ Wb) (fun _ _ _ => False)) { tmps := (ps.zip (enc k v)).foldl (fun t (p, v) => t.setIfInBounds p v) a.tmps, defers := [] } W)
    (hdone : ∀ (D : Nat) (W : World), w.heap.size ≤ D → I N W → W.heap[D]? = some (.deferred (some [])) → Q .normal { a with defers := { target := .collected D, args := #[] } :: a.defers } W)
    (hstop : ∀ (D : Nat) (c : Code) (W : World), w.heap.size ≤ D → Ix c W → W.heap[D]? = some (.deferred (some [])) → c.wpIn Fence.wide n P Q { a with defers := { target := .collected D, args := #[] } :: a.defers } W) :
    (Code.rangeFunc g ps assign body).wpIn Fence.wide n P Q a w := by
  refine wpIn_rangeFunc fun fn hfn => ?_
  obtain ⟨rec, hrec⟩ : ∃ rec : LoopState → Option Code → Loop, rec = fun st pe => { state := st, pending := pe, fn, tmps := a.tmps, params := ps, assign, body, defers := w.heap.size } := ⟨_, rfl⟩
  obtain ⟨W1, hW1⟩ : ∃ W1, (w.alloc (.deferred (some []))).alloc (.loop (rec .ready none)) = W1 := ⟨_, rfl⟩
  have hsz : W1.heap.size = w.heap.size + 2 := by rw [← hW1]; simp
  have hup1 : Up w W1 := by rw [← hW1]; exact up_alloc (up_alloc (up_refl _) _) _
  have hL1 : W1.heap[w.heap.size + 1]? = some (.loop (rec .ready none)) := by
    rw [← hW1]
    have := World.alloc_heap_new (w.alloc (.deferred (some []))) (.loop (rec .ready none))
    rwa [World.size_alloc] at this
  have hK1 : W1.heap[w.heap.size]? = some (.deferred (some [])) := by
    rw [← hW1]
    exact (Below.heap_alloc _ _ _ (by simp)).trans (World.alloc_heap_new w _)
  refine ⟨w.heap.size + 1, [{ target := .collected w.heap.size, args := #[] }], W1, { target := .fn (.func gf) lb, args := #[.func (.yield (w.heap.size + 1)) #[] #[]] }, W1, gf,
    #[.func (.yield (w.heap.size + 1)) #[] #[]] ++ lb, W1, ?_, ?_, fun _ _ => trivial, ?_, (fun h => absurd h (by decide)), ?_⟩
  · rw [← hW1, hrec]
    exact run_enterLoop_outer _ _ _ _ _
  · simp only [resolve, hg]
    simp [go_sem]
  · simp [invoke, go_sem, eg]
  · refine (hseq (w.heap.size + 1)
      (fun k W => I k W ∧ W.heap[w.heap.size + 1]? = some (.loop (rec .ready none)) ∧ W.heap[w.heap.size]? = some (.deferred (some [])))
      (fun W => ∃ c, Ix c W ∧ W.heap[w.heap.size + 1]? = some (.loop (rec .done (some c))) ∧ W.heap[w.heap.size]? = some (.deferred (some [])))
      W1 (fun k W h => hInv k W h.1) (fun k W W' h hu => ⟨hIg k W W' h.1 hu, up_same hu h.2.1, up_same hu h.2.2⟩) ?_ ⟨hIg 0 w W1 h0 hup1, hL1, hK1⟩).mono ?_
    · rintro k v W0 W hk ⟨hi, hl0, hk0⟩ hu hgv
      have hl := up_same hu hl0
      have hkd := up_same hu hk0
      have hlt : w.heap.size + 1 < W.heap.size := (Array.getElem?_eq_some_iff.1 hl).1
      have hlt0 : w.heap.size + 1 < W0.heap.size := (Array.getElem?_eq_some_iff.1 hl0).1
      have hy := run_yield (P := P) (args := enc k v) hl (by rw [hrec]; exact hps k v)
      rw [hrec] at hy
      have hl2 : (W.putObj (w.heap.size + 1) (.loop { rec .ready none with state := .busy })).heap[w.heap.size + 1]? = some (.loop { rec .ready none with state := .busy }) := World.putObj_heap_same hlt
      have hk2 : (W.putObj (w.heap.size + 1) (.loop { rec .ready none with state := .busy })).heap[w.heap.size]? = some (.deferred (some [])) := (World.putObj_heap_other (by omega)).trans hkd
      refine ⟨fn, _, assign, body, hy, roundIn_of_wpIn hfn (wpIn_mono (hround _ k v W (W.putObj (w.heap.size + 1) (.loop { rec .ready none with state := .busy })) (W0.putObj (w.heap.size + 1) (.loop { rec .ready none with state := .busy })) hk (hIt k _ _ _ _ hi (by omega) hl0 rfl) (up_putObj hu _ _) (by rw [World.putObj_size]; exact ownsRow_putObj hgv _ hl rfl)) ?_)⟩
      intro e0 a0 w0 h0'
      cases e0 with
      | normal =>
        obtain ⟨rfl, hb⟩ := h0'
        refine ⟨_, run_beginRound hl (by rw [hrec]), wpIn_mono hb ?_⟩
        have fin : ∀ (jump : Option Code) (W3 : World), KeepsOthers (w0.putObj (w.heap.size + 1) (.loop { rec .ready none with state := .busy })) W3 →
            (Instr.endRound (w.heap.size + 1) jump).run P W3 = .ok (.bool jump.isNone) (W3.putObj (w.heap.size + 1) (.loop (rec (if jump.isNone then .ready else .done) jump))) ∧
            W3.heap[w.heap.size + 1]? = some (.loop { rec .ready none with state := .busy }) ∧
            (W3.putObj (w.heap.size + 1) (.loop (rec (if jump.isNone then .ready else .done) jump))).heap[w.heap.size + 1]? = some (.loop (rec (if jump.isNone then .ready else .done) jump)) ∧
            (W3.putObj (w.heap.size + 1) (.loop (rec (if jump.isNone then .ready else .done) jump))).heap[w.heap.size]? = some (.deferred (some [])) := fun jump W3 hk3 => by
          have hl3 := hk3.same _ _ hl2 rfl
          have he := run_endRound (P := P) jump hl3
          rw [hrec] at he ⊢
          exact ⟨he, by rw [hrec] at hl3; exact hl3, World.putObj_heap_same (Array.getElem?_eq_some_iff.1 hl3).1, (World.putObj_heap_other (by omega)).trans (hk3.same _ _ hk2 rfl)⟩
        rintro e a3 W3 hp
        cases e with
        | normal =>
          obtain ⟨hk3, hi3⟩ := hp
          obtain ⟨hr, hl3, hl4, hk4⟩ := fin none W3 hk3
          exact ⟨_, _, hr, .inl ⟨rfl, hIt _ _ _ _ _ hi3 (by omega) hl3 rfl, hl4, hk4⟩⟩
        | ret =>
          obtain ⟨hk3, hi3⟩ := hp
          obtain ⟨hr, hl3, hl4, hk4⟩ := fin (some .ret) W3 hk3
          exact ⟨_, _, hr, .inr ⟨rfl, .ret, hIxt _ _ _ _ _ hi3 (by omega) hl3 rfl, hl4, hk4⟩⟩
        | exit id =>
          obtain ⟨hk3, hi3⟩ := hp
          obtain ⟨hr, hl3, hl4, hk4⟩ := fin (some (.exit id)) W3 hk3
          exact ⟨_, _, hr, .inr ⟨rfl, .exit id, hIxt _ _ _ _ _ hi3 (by omega) hl3 rfl, hl4, hk4⟩⟩
        | goto t =>
          obtain ⟨hk3, hi3⟩ := hp
          obtain ⟨hr, hl3, hl4, hk4⟩ := fin (some (.goto t)) W3 hk3
          exact ⟨_, _, hr, .inr ⟨rfl, .goto t, hIxt _ _ _ _ _ hi3 (by omega) hl3 rfl, hl4, hk4⟩⟩
        | panic ch => exact hp.elim
        | outgrown => exact hp.elim
      | exit id => exact h0'.elim
      | goto t => exact h0'.elim
      | ret => exact h0'.elim
      | panic ch => exact h0'.elim
      | outgrown => exact h0'.elim
    · rintro e W2 ⟨⟨v, rfl⟩, (⟨hi, hl, hk⟩ | ⟨c, hi, hl, hk⟩)⟩
      · have he := run_endLoop (P := P) hl (by rw [hrec]; simp)
        rw [hrec] at he
        exact ⟨none, _, he, hdone _ _ (Nat.le_refl _) (hIt _ _ _ _ _ hi (by omega) hl rfl) ((World.putObj_heap_other (by omega)).trans hk)⟩
      · have he := run_endLoop (P := P) hl (by rw [hrec]; simp)
        rw [hrec] at he
        exact ⟨some c, _, he, hstop _ c _ (Nat.le_refl _) (hIxt _ _ _ _ _ hi (by omega) hl rfl) ((World.putObj_heap_other (by omega)).trans hk)⟩
/-- .. where what the assignment leaves is named ahead. -/
theorem wpIn_rangeN {P : Program} {n : Nat} {g : Operand} {ps : Array Tmp} {assign body : Code} {Q : Exit → Act → World → Prop} {a : Act} {w : World}
    {gf : Nat} {lb : Array Value} (hg : a.eval g = .func (.func gf) #[] lb) (eg : ∀ args w, (callFunc gf args).run P w = .ok (.enter gf args) w)
    {N : Nat} {enc : Nat → Value → Array Value} {r : Nat → List Int} {Inv : World → Prop} (hseq : IterN P (n - 1) gf lb N enc r Inv) (hps : ∀ k v, (enc k v).size = ps.size)
    (I : Nat → World → Prop) (Ix : Code → World → Prop) (hInv : ∀ k W, I k W → Inv W) (hIg : ∀ k, Grows (I k)) (hIt : ∀ k, Turns w.heap.size (I k)) (hIxt : ∀ c, Turns w.heap.size (Ix c)) (h0 : I 0 w) (a₁ : Nat → Value → Act)
    (hassign : ∀ (l k : Nat) (v : Value) (W : World) (K : Act → World → Prop), K (a₁ k v) W →
      assign.wpIn (Fence.wide.inRound l) (n - 1 - 1) P (Exit.then K (fun _ _ _ => False)) { tmps := (ps.zip (enc k v)).foldl (fun t (p, v) => t.setIfInBounds p v) a.tmps, defers := [] } W)
    (hbody : ∀ (l k : Nat) (v : Value) (W0 W : World), k < N → I k W0 → Up W0 W → Given (r k) v W0.heap.size W → body.wpIn (Fence.wide.inRound l) (n - 1 - 1) P (roundEnd I Ix (k + 1) W) (a₁ k v) W)
    (hdone : ∀ (D : Nat) (W : World), w.heap.size ≤ D → I N W → W.heap[D]? = some (.deferred (some [])) → Q .normal { a with defers := { target := .collected D, args := #[] } :: a.defers } W)
    (hstop : ∀ (D : Nat) (c : Code) (W : World), w.heap.size ≤ D → Ix c W → W.heap[D]? = some (.deferred (some [])) → c.wpIn Fence.wide n P Q { a with defers := { target := .collected D, args := #[] } :: a.defers } W) :
    (Code.rangeFunc g ps assign body).wpIn Fence.wide n P Q a w := by
  exact wpIn_rangeR hg eg hseq hps I Ix hInv hIg hIt hIxt h0 (fun l k v W Wb W0 hk hI hu hgv => hassign l k v W _ ⟨rfl, hbody l k v W0 Wb hk hI hu hgv⟩) hdone hstop
/-- append(s, x...) inside a fence, where x may be nil. -/
theorem wpListIn_append_row {F : Fence} {nF : Nat} {P : Program} (w : World) {ops : Array Oper} {rest : List Oper} {o : Oper} {a : Act} {Q : Exit → Act → World → Prop} (hgd : o.guard = none) (s x : Operand) (t : TypeId)
    (ho : o.op = .call { callee := .builtin .append, args := #[s, x], argTypes := #[t, t] })
    (base : Nat) (e : TypeId) (i : TypeInfo) (z : Value) (size bytes : Nat) (ht : P.underlying t = some (.slice e)) (hi : P.info? e = some i) (hz : i.zero = some z)
    (hsize : i.size = size) (hby : i.bytes = bytes) (hzs : z.cells.size = size) (hsz : 0 < size)
    (v : Value) (n : Nat) (xs : List Value) (hs : a.eval s = v) (hown : w.ownsRow base e size v n xs)
    (A : Option Addr) (m c : Nat) (news : List Value) (hx : a.eval x = .slice A m c) (hl : news.length = m * size) (hnews : Cells w A news) (h1 : ∀ u ∈ news, u.oneCell' = true)
    (h63 : n + m ≤ maxLen) (hbytes : (n + m) * bytes ≤ 140737488355328) (hbase : base ≤ w.heap.size)
    (h : ∀ v' w', w'.ownsRow base e size v' (n + m) (xs ++ news) → w.grownBy w' v.ownBlock → (v'.ownBlock = v.ownBlock ∨ v'.ownBlock = some w.heap.size) → wpListIn F nF P ops Q rest (a.put o.dst v') w') :
    wpListIn F nF P ops Q (o :: rest) a w := by
  cases A with
  | some ad =>
    exact wpListIn_append_own_at w hgd s x t ho base e i z size bytes ht hi hz hsize hby hzs hsz v n xs hs hown ad m c news hx hl
      (fun j u hu => by obtain ⟨ad', he, hc⟩ := hnews j u hu; cases he; exact hc) h1 h63 hbytes hbase (fun v' w' a1 a2 _ a4 => h v' w' a1 a2 a4)
  | none =>
    have hn : news = [] := by
      cases news with
      | nil => rfl
      | cons u us =>
        obtain ⟨ad, he, _⟩ := hnews 0 u rfl
        cases he
    subst hn
    have hm : m = 0 := by
      rcases Nat.eq_zero_or_pos m with h | h
      · exact h
      · have := Nat.mul_pos h hsz
        simp at hl
        omega
    subst hm
    refine wpListIn_plain hgd fun K hK => ?_
    have hrun := run_append_none' (P := P) w base t o.type e i size ht hi v n xs hown c
    unfold Oper.wpIn
    refine ⟨by simp [Oper.about, ho, resolve, Target.leads, Sem.run_pure], ?_⟩
    rw [Oper.semAt_plain F _ _ (by rw [ho]; intro c hc'; cases hc')]
    simp [execOp, ho, resolve, invoke, builtin, hs, hx, hrun, Result.andThen]
    refine hK _ _ (h v w ?_ ⟨rfl, rfl, rfl, Nat.le_refl _, fun _ _ _ => rfl⟩ (.inl rfl))
    simpa using hown
end Go.Proofs.YthneeainigdmhaaGreat.M
