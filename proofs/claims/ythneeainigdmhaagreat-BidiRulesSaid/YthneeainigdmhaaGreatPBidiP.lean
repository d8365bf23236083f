/- Labels that run from right to left: the plain law of the rules. -/
import Derived.Test.YthneeainigdmhaaGreatPJoin0
import Derived.Laws.BitsLemmas
set_option linter.unusedVariables false
set_option linter.unusedSimpArgs false
namespace Go.Proofs.YthneeainigdmhaaGreat.M
open Go.RowKit
set_option maxHeartbeats 8000000

def rtl (k : Int) : Bool := k == 1 || k == 2 || k == 3
/-- Whether something runs from right to left (17.1). -/
def hasF (B : Int → Int) (x : List Int) : Bool := x.any fun c => rtl (B c)
theorem has_step (B : Int → Int) (x : List Int) (i : Nat) (h : i < x.length) : hasF B (x.drop i) = (rtl (B (rd x i)) || hasF B (x.drop (i + 1))) := by
  unfold hasF
  rw [List.drop_eq_getElem_cons h, List.any_cons, rd_elem x i h]
/-- The last direction that is not NSM; v, if there is none. -/
def lastD (B : Int → Int) : List Int → Int → Int
  | [], v => v
  | a :: r, v => lastD B r (if B a = 10 then v else B a)
/-- How often a direction stands there. -/
def cntD (B : Int → Int) (x : List Int) (k : Int) : Nat := x.countP fun c => B c == k
def endL (v : Int) : Bool := v == 0 || v == 4
def endR (v : Int) : Bool := v == 1 || v == 2 || v == 4 || v == 3
def anyL (B : Int → Int) (x : List Int) : Bool := x.any fun c => B c == 0
def ruleN (b : Bool) (n : Int) : Int := if b then n else 0
/-- Which rules are broken (17.2). -/
def rulesF (B : Int → Int) : List Int → Int
  | [] => 0
  | a :: r =>
    if B a = 0 then ruleN (hasF B (a :: r)) 16 + ruleN (!endL (lastD B (a :: r) 10)) 32
    else if B a = 1 ∨ B a = 2 then ruleN (anyL B (a :: r)) 2 + ruleN (!endR (lastD B (a :: r) 10)) 4 + ruleN (decide (0 < cntD B (a :: r) 4) && decide (0 < cntD B (a :: r) 3)) 8
    else 1
theorem rulesF_cons (B : Int → Int) (a : Int) (r : List Int) : rulesF B (a :: r) = if B a = 0 then ruleN (hasF B (a :: r)) 16 + ruleN (!endL (lastD B (a :: r) 10)) 32
    else if B a = 1 ∨ B a = 2 then ruleN (anyL B (a :: r)) 2 + ruleN (!endR (lastD B (a :: r) 10)) 4 + ruleN (decide (0 < cntD B (a :: r) 4) && decide (0 < cntD B (a :: r) 3)) 8
    else 1 := rfl
theorem lastD_append (B : Int → Int) : ∀ (x y : List Int) (v : Int), lastD B (x ++ y) v = lastD B y (lastD B x v)
  | [], y, v => rfl
  | a :: x, y, v => lastD_append B x y _
theorem lastD_marks (B : Int → Int) : ∀ (y : List Int) (v : Int), (∀ c ∈ y, B c = 10) → lastD B y v = v
  | [], v, _ => rfl
  | a :: y, v, h => by
    show lastD B y (if B a = 10 then v else B a) = v
    rw [if_pos (h a (by simp))]
    exact lastD_marks B y v (fun c hc => h c (by simp [hc]))
theorem any_marks (p : Int → Bool) (x y : List Int) (h : ∀ c ∈ y, p c = false) : (x ++ y).any p = x.any p := by
  rw [List.any_append, show y.any p = false from List.any_eq_false.2 (fun c hc => by rw [h c hc]; decide), Bool.or_false]
theorem cntD_marks (B : Int → Int) (x y : List Int) (k : Int) (h : ∀ c ∈ y, B c = 10) (hk : k ≠ 10) : cntD B (x ++ y) k = cntD B x k := by
  unfold cntD
  rw [List.countP_append, show y.countP _ = 0 from List.countP_eq_zero.2 (fun c hc => by rw [h c hc]; simpa using Ne.symm hk), Nat.add_zero]
/-- Marks behind a label change nothing (17.3). -/
theorem rules_marks (B : Int → Int) (x y : List Int) (hx : x ≠ []) (h : ∀ c ∈ y, B c = 10) : rulesF B (x ++ y) = rulesF B x := by
  cases x with
  | nil => exact absurd rfl hx
  | cons a r =>
    have e1 : hasF B (a :: (r ++ y)) = hasF B (a :: r) := any_marks _ (a :: r) y (fun c hc => by simp only [h c hc]; decide)
    have e2 : anyL B (a :: (r ++ y)) = anyL B (a :: r) := any_marks _ (a :: r) y (fun c hc => by simp only [h c hc]; decide)
    have e3 : lastD B (a :: (r ++ y)) 10 = lastD B (a :: r) 10 := (lastD_append B (a :: r) y 10).trans (lastD_marks B y _ h)
    have e4 : cntD B (a :: (r ++ y)) 4 = cntD B (a :: r) 4 := cntD_marks B (a :: r) y 4 h (by decide)
    have e5 : cntD B (a :: (r ++ y)) 3 = cntD B (a :: r) 3 := cntD_marks B (a :: r) y 3 h (by decide)
    show rulesF B (a :: (r ++ y)) = rulesF B (a :: r)
    simp only [rulesF, e1, e2, e3, e4, e5]
/-- What the rules come to. -/
theorem rules_cases (B : Int → Int) (x : List Int) : rulesF B x = 0 ∨ rulesF B x = 1 ∨ rulesF B x = 16 ∨ rulesF B x = 32 ∨ rulesF B x = 48 ∨ rulesF B x = 2 ∨ rulesF B x = 4 ∨ rulesF B x = 6 ∨ rulesF B x = 8 ∨ rulesF B x = 10 ∨ rulesF B x = 12 ∨ rulesF B x = 14 := by
  cases x with
  | nil => exact .inl rfl
  | cons a r =>
    rw [rulesF_cons]
    generalize hasF B (a :: r) = b1
    generalize (!endL (lastD B (a :: r) 10)) = b2
    generalize anyL B (a :: r) = b3
    generalize (!endR (lastD B (a :: r) 10)) = b4
    generalize (decide (0 < cntD B (a :: r) 4) && decide (0 < cntD B (a :: r) 3)) = b5
    split
    · cases b1 <;> cases b2 <;> simp [ruleN]
    · split
      · cases b3 <;> cases b4 <;> cases b5 <;> simp [ruleN]
      · simp
theorem hasF_head {B : Int → Int} {a : Int} {r : List Int} (h : hasF B (a :: r) = false) : rtl (B a) = false := by
  unfold hasF at h
  rw [List.any_cons, Bool.or_eq_false_iff] at h
  exact h.1
/-- Without what runs from right to left 2, 3 and 4 are not broken. -/
theorem rules_plain (B : Int → Int) (x : List Int) (h : hasF B x = false) : rulesF B x = 0 ∨ rulesF B x = 1 ∨ rulesF B x = 32 := by
  cases x with
  | nil => exact .inl rfl
  | cons a r =>
    have h1 := hasF_head h
    rw [rulesF_cons]
    rw [h]
    split
    · generalize (!endL (lastD B (a :: r) 10)) = b2
      cases b2 <;> simp [ruleN]
    · split
      · rename_i h2
        rcases h2 with h2 | h2 <;> (rw [h2] at h1; exact absurd h1 (by decide))
      · simp
/-- L and EN alone, an L first: as everybody writes it. -/
def Plain (B : Int → Int) (x : List Int) : Prop := (∀ c ∈ x, B c = 0 ∨ B c = 4) ∧ ∀ a r, x = a :: r → B a = 0
theorem plain_nil (B : Int → Int) : Plain B [] := ⟨fun c hc => (by cases hc), fun a r h => (by cases h)⟩
theorem plain_snoc {B : Int → Int} {x : List Int} {c : Int} (h : Plain B x) (hc : B c = 0 ∨ (B c = 4 ∧ x ≠ [])) : Plain B (x ++ [c]) := by
  refine ⟨fun d hd => ?_, fun a r he => ?_⟩
  · rcases List.mem_append.1 hd with hd | hd
    · exact h.1 d hd
    · rw [List.mem_singleton.1 hd]
      rcases hc with hc | ⟨hc, _⟩
      · exact .inl hc
      · exact .inr hc
  · cases x with
    | nil =>
      rcases hc with hc | ⟨_, hc⟩
      · injection he with e1 e2
        rw [← e1]
        exact hc
      · exact absurd rfl hc
    | cons b q =>
      injection he with e1 e2
      rw [← e1]
      exact h.2 b q rfl
theorem plain_last {B : Int → Int} : ∀ (x : List Int) (v : Int), (∀ c ∈ x, B c = 0 ∨ B c = 4) → (v = 0 ∨ v = 4) → endL (lastD B x v) = true
  | [], v, _, hv => by rcases hv with rfl | rfl <;> rfl
  | a :: x, v, h, hv => by
    show endL (lastD B x (if B a = 10 then v else B a)) = true
    refine plain_last x _ (fun c hc => h c (by simp [hc])) ?_
    split
    · exact hv
    · exact h a (by simp)
theorem plain_has {B : Int → Int} {x : List Int} (h : Plain B x) : hasF B x = false := by
  unfold hasF
  refine List.any_eq_false.2 fun c hc => ?_
  rcases h.1 c hc with e | e <;> (rw [e]; decide)
theorem plain_rules {B : Int → Int} {x : List Int} (h : Plain B x) : rulesF B x = 0 := by
  cases x with
  | nil => rfl
  | cons a r =>
    have h0 := h.2 a r rfl
    have e1 := plain_has h
    have e2 : endL (lastD B (a :: r) 10) = true := by
      show endL (lastD B r (if B a = 10 then 10 else B a)) = true
      rw [h0]
      exact plain_last r _ (fun c hc => h.1 c (by simp [hc])) (.inl rfl)
    rw [rulesF_cons]
    rw [if_pos h0, e1, e2]
    rfl
/-! ### by counts -/
theorem has_cnt (B : Int → Int) (x : List Int) : hasF B x = (decide (0 < cntD B x 1) || decide (0 < cntD B x 2) || decide (0 < cntD B x 3)) := by
  rw [Bool.eq_iff_iff]
  unfold hasF cntD rtl
  simp only [List.any_eq_true, Bool.or_eq_true, decide_eq_true_eq, List.countP_pos_iff]
  constructor
  · rintro ⟨c, hc, (h | h) | h⟩
    · exact .inl (.inl ⟨c, hc, h⟩)
    · exact .inl (.inr ⟨c, hc, h⟩)
    · exact .inr ⟨c, hc, h⟩
  · rintro ((⟨c, hc, h⟩ | ⟨c, hc, h⟩) | ⟨c, hc, h⟩)
    · exact ⟨c, hc, .inl (.inl h)⟩
    · exact ⟨c, hc, .inl (.inr h)⟩
    · exact ⟨c, hc, .inr h⟩
theorem anyL_cnt (B : Int → Int) (x : List Int) : anyL B x = decide (0 < cntD B x 0) := by
  rw [Bool.eq_iff_iff]
  unfold anyL cntD
  simp only [List.any_eq_true, decide_eq_true_eq, List.countP_pos_iff]
theorem cnt_step (B : Int → Int) (x : List Int) (i : Nat) (h : i < x.length) (k : Int) : cntD B (x.take (i + 1)) k = cntD B (x.take i) k + (if B (rd x i) = k then 1 else 0) := by
  unfold cntD
  rw [List.take_succ_eq_append_getElem h, List.countP_append, rd_elem x i h]
  by_cases e : B x[i] = k
  · simp [e]
  · simp [e]
theorem last_step (B : Int → Int) (x : List Int) (i : Nat) (h : i < x.length) (v : Int) : lastD B (x.take (i + 1)) v = if B (rd x i) = 10 then lastD B (x.take i) v else B (rd x i) := by
  rw [List.take_succ_eq_append_getElem h, lastD_append, rd_elem x i h]
  rfl
theorem cnt_le (B : Int → Int) (x : List Int) (k : Int) : cntD B x k ≤ x.length := List.countP_le_length
end Go.Proofs.YthneeainigdmhaaGreat.M
