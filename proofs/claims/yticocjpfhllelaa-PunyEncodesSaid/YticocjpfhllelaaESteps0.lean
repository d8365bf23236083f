/- What puny.steps comes to, in plain Lean; a scope with several labels. -/
import Derived.Test.YticocjpfhllelaaEPuny
import Derived.ScopeJumps
namespace Go

/-- As Q; by a goto to a label l of L: J l. -/
def Exit.jumps (L : Nat → Prop) (J : Nat → Act → World → Prop) (Q : Exit → Act → World → Prop) : Exit → Act → World → Prop
  | .goto l', a, w => L l' ∧ J l' a w
  | e, a, w => Q e a w

section
variable {P : Program} {a : Act} {w : World} {Q : Exit → Act → World → Prop}

theorem wp_scope_labels {c : Code} (rest : Nat → Code) (L : Nat → Prop) (J : Nat → Act → World → Prop) (μ : Nat → Act → World → Nat)
    (hf : ∀ l, L l → findLabel c l = some (rest l))
    (first : c.wp P (Exit.jumps L J Q) a w)
    (pass : ∀ l, L l → ∀ a w, J l a w → (rest l).wp P (Exit.jumps L (fun l' a' w' => J l' a' w' ∧ μ l' a' w' < μ l a w) Q) a w) : (Code.scope c).wp P Q a w := by
  intro b k cs
  have hg : ∀ l, L l → gotoIn l (.inScope c :: k) = some (.code (rest l) :: .inScope c :: k) := fun l hl => by simp [gotoIn, hf l hl]
  have key : ∀ n l a w, L l → μ l a w = n → J l a w → ∃ e a' w', Q e a' w' ∧ Arrives P (lone (b.at a (.code (rest l) :: .inScope c :: k)) cs w) b k cs e a' w' := by
    intro n
    induction n using Nat.strongRecOn with
    | _ n ih =>
      intro l a w hl hn hJ
      obtain ⟨e, a₁, w₁, hq, harr⟩ := pass l hl a w hJ b (.inScope c :: k) cs
      cases e with
      | normal => exact ⟨.normal, a₁, w₁, hq, Steps.trans harr (.one step_inScope)⟩
      | exit id => exact ⟨.exit id, a₁, w₁, hq, fun k' hk => harr k' (by simp [exitTo, hk])⟩
      | goto l' =>
        obtain ⟨hl', hJ', hlt⟩ := hq
        obtain ⟨e₂, a₂, w₂, hq₂, harr₂⟩ := ih _ (by omega) l' a₁ w₁ hl' rfl hJ'
        exact ⟨e₂, a₂, w₂, hq₂, .of_steps (harr _ (hg l' hl')) harr₂⟩
      | ret => exact ⟨_, a₁, w₁, hq, harr⟩
      | panic ch => exact ⟨_, a₁, w₁, hq, harr⟩
      | outgrown => exact ⟨_, a₁, w₁, hq, harr⟩
  obtain ⟨e, a₁, w₁, hq, harr⟩ := first b (.inScope c :: k) cs
  cases e with
  | normal => exact ⟨.normal, a₁, w₁, hq, .head step_scope (Steps.trans harr (.one step_inScope))⟩
  | exit id => exact ⟨.exit id, a₁, w₁, hq, fun k' hk => .head step_scope (harr k' (by simp [exitTo, hk]))⟩
  | goto l' =>
    obtain ⟨hl', hJ'⟩ := hq
    obtain ⟨e₂, a₂, w₂, hq₂, harr₂⟩ := key _ l' a₁ w₁ hl' rfl hJ'
    exact ⟨e₂, a₂, w₂, hq₂, .of_steps (.head step_scope (harr _ (hg l' hl'))) harr₂⟩
  | ret => exact ⟨_, a₁, w₁, hq, .of_steps (.one step_scope) harr⟩
  | panic ch => exact ⟨_, a₁, w₁, hq, .of_steps (.one step_scope) harr⟩
  | outgrown => exact ⟨_, a₁, w₁, hq, .of_steps (.one step_scope) harr⟩
theorem wp_skip_seq {Y : Code} (h : Y.wp P Q a w) : (Code.seq .skip Y).wp P Q a w := wp_seq (wp_skip h)
theorem wp_scope_labels' {c : Code} (L : Nat → Prop) (J : Nat → Act → World → Prop) (μ : Nat → Act → World → Nat)
    (hf : ∀ l, L l → (findLabel c l).isSome = true)
    (first : c.wp P (Exit.jumps L J Q) a w)
    (pass : ∀ l, L l → ∀ a w, J l a w → ((findLabel c l).getD .skip).wp P (Exit.jumps L (fun l' a' w' => J l' a' w' ∧ μ l' a' w' < μ l a w) Q) a w) : (Code.scope c).wp P Q a w :=
  wp_scope_labels (fun l => (findLabel c l).getD .skip) L J μ (fun l hl => by
    have := hf l hl
    cases h : findLabel c l with
    | none => rw [h] at this; simp at this
    | some x => rfl) first pass
end
end Go

namespace Go.Proofs.Yticocjpfhllelaa.XP
open Go.RowKit Go.Proofs.YticocjpfhllelaaW.PrintWords Go.Proofs.YticocjpfhllelaaW.PrintLast Go.Proofs.YticocjpfhllelaaW.PrintMore

/-- The text's digits, read: x, n, i, bias, steps: the state; k, num, wt: the number that is read; fresh: none is begun. -/
def runD : List Int → List Int → Int → Int → Int → Int → Int → Int → Int → Bool → List Int × Int
  | [], x, _, _, _, _, _, _, _, fresh => if fresh then (x, 0) else ([], 112)
  | b :: bs, x, n, i, bias, st, k, num, wt, _ =>
    if dval b < 0 then ([], 110)
    else
      let num' := if 0 < dval b then min (num + dval b * wt) 2147483648 else num
      if thr k bias ≤ dval b then runD bs x n i bias st (k + 1) num' (min (wt * (36 - thr k bias)) 2147483648) false
      else if 2147483647 < num' then ([], 113)
      else
        let h : Int := x.length + 1
        let c := n + (i + num') / h
        let at_ := (i + num') % h
        if c ≤ 1114111 ∧ validI c = true then runD bs (x.take at_.toNat ++ c :: x.drop at_.toNat) c (at_ + 1) (adaptI num' h (st == 0)) (st + 1) 1 0 1 true
        else ([], 31)

/-- puny.steps. -/
def puny_steps.f (l0 : List Int) (a1 : ByteArray) : Option (List Int × Int) :=
  if l0.length ≤ 65536 ∧ a1.size ≤ 65536 then some (runD (bytesOf a1) l0 128 0 72 0 1 0 1 true) else none
end Go.Proofs.Yticocjpfhllelaa.XP
