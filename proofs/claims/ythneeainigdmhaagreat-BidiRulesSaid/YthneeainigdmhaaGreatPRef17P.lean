/- The document's Rules: the plain law. -/
import Derived.Test.YthneeainigdmhaaGreatPRef17
set_option linter.unusedVariables false
set_option linter.unusedSimpArgs false
namespace Go.Proofs.YthneeainigdmhaaGreat.M
open Go.RowKit
set_option maxHeartbeats 8000000

def rtlK (k : List Int) : Bool := k.any rtl
def zeroK (k : List Int) : Bool := k.any fun a => a == 0
theorem rtl_among (a : Int) : amongB a [1, 2, 3] = rtl a := by
  unfold amongB rtl
  simp only [List.any_cons, List.any_nil, Bool.or_false]
  rw [Bool.or_assoc, show ((1 : Int) == a) = (a == 1) from Bool.beq_comm .., show ((2 : Int) == a) = (a == 2) from Bool.beq_comm .., show ((3 : Int) == a) = (a == 3) from Bool.beq_comm ..]
theorem endR_among (a : Int) : amongB a [1, 2, 4, 3] = endR a := by
  unfold amongB endR
  simp only [List.any_cons, List.any_nil, Bool.or_false]
  rw [show ((1 : Int) == a) = (a == 1) from Bool.beq_comm .., show ((2 : Int) == a) = (a == 2) from Bool.beq_comm .., show ((3 : Int) == a) = (a == 3) from Bool.beq_comm .., show ((4 : Int) == a) = (a == 4) from Bool.beq_comm .., Bool.or_assoc, Bool.or_assoc]
theorem first_among (a : Int) : amongB a [0, 1, 2] = (a == 0 || a == 1 || a == 2) := by
  unfold amongB
  simp only [List.any_cons, List.any_nil, Bool.or_false]
  rw [Bool.or_assoc, show ((1 : Int) == a) = (a == 1) from Bool.beq_comm .., show ((2 : Int) == a) = (a == 2) from Bool.beq_comm .., show ((0 : Int) == a) = (a == 0) from Bool.beq_comm ..]
theorem take_step (p : Int → Bool) (k : List Int) (i : Nat) (h : i < k.length) : (k.take (i + 1)).any p = ((k.take i).any p || p (rd k i)) := by
  rw [List.take_add_one, List.getElem?_eq_getElem h, Option.toList_some, List.any_append, rd_elem k i h]
  simp
theorem lastD_map (B : Int → Int) : ∀ (x : List Int) (v : Int), lastD B x v = lastD id (x.map B) v
  | [], v => rfl
  | a :: x, v => lastD_map B x _
theorem lastD_at (k : List Int) (i : Nat) (hi : i < k.length) (v : Int) (h : ∀ j : Nat, i < j → j < k.length → rd k j = 10) (h0 : rd k i ≠ 10) : lastD id k v = rd k i := by
  have e : k = k.take i ++ (k[i] :: k.drop (i + 1)) := by rw [← List.drop_eq_getElem_cons hi, List.take_append_drop]
  obtain ⟨q, hq⟩ : ∃ q, rd k i = q := ⟨_, rfl⟩
  rw [hq] at h0 ⊢
  rw [rd_elem k i hi] at hq
  rw [hq] at e
  have hd : lastD id k v = lastD id (k.take i ++ q :: k.drop (i + 1)) v := congrArg (fun l => lastD id l v) e
  rw [hd, lastD_append]
  show lastD id (k.drop (i + 1)) (if id q = 10 then _ else id q) = _
  rw [if_neg (show ¬ id q = 10 from h0), lastD_marks]
  · rfl
  · intro c hc
    obtain ⟨j, hj, rfl⟩ := List.mem_iff_getElem.1 hc
    rw [List.length_drop] at hj
    have := h (i + 1 + j) (by omega) (by omega)
    rw [rd_elem k (i + 1 + j) (by omega)] at this
    rw [List.getElem_drop]
    exact this
theorem rtlK_map (B : Int → Int) (x : List Int) : rtlK (x.map B) = hasF B x := by
  unfold rtlK hasF
  rw [List.any_map]
  rfl
theorem zeroK_map (B : Int → Int) (x : List Int) : zeroK (x.map B) = anyL B x := by
  unfold zeroK anyL
  rw [List.any_map]
  rfl
theorem among_map (B : Int → Int) (x : List Int) (n : Int) : amongB n (x.map B) = decide (0 < cntD B x n) := by
  unfold amongB cntD
  rw [List.any_map]
  cases h : x.any ((fun a => a == n) ∘ B)
  · symm
    rw [decide_eq_false_iff_not, Nat.not_lt, Nat.le_zero, List.countP_eq_zero]
    intro a ha
    have := List.any_eq_false.1 h a ha
    exact this
  · symm
    rw [decide_eq_true_eq, List.countP_pos_iff]
    obtain ⟨a, ha, h1⟩ := List.any_eq_true.1 h
    exact ⟨a, ha, h1⟩
/-- What the document's rules say of directions k, of which the last that is no mark is z. -/
def rulesK (k : List Int) (z : Int) : Int :=
  if rd k 0 = 0 then ruleN (rtlK k) 16 + ruleN (!endL z) 32
  else if rd k 0 = 1 ∨ rd k 0 = 2 then ruleN (zeroK k) 2 + ruleN (!endR z) 4 + ruleN (amongB 4 k && amongB 3 k) 8
  else 1
theorem rulesK_said (B : Int → Int) (x : List Int) (hx : x ≠ []) (z : Int) (hz : lastD id (x.map B) 10 = z) : rulesF B x = rulesK (x.map B) z := by
  cases x with
  | nil => exact absurd rfl hx
  | cons a r =>
    rw [← lastD_map] at hz
    rw [rulesF_cons, hz]
    unfold rulesK
    rw [rtlK_map, zeroK_map, among_map, among_map, show rd ((a :: r).map B) 0 = B a from rfl]
theorem last_ex (k : List Int) (h0 : rd k 0 ≠ 10) : ∀ n : Nat, n < k.length → (∀ j : Nat, n < j → j < k.length → rd k j = 10) → ∃ m : Nat, m < k.length ∧ (∀ j : Nat, m < j → j < k.length → rd k j = 10) ∧ rd k m ≠ 10
  | 0, hn, h => ⟨0, hn, h, h0⟩
  | n + 1, hn, h => by
    by_cases e : rd k ((n + 1 : Nat) : Int) = 10
    · refine last_ex k h0 n (by omega) (fun j hj hl => ?_)
      by_cases e2 : j = n + 1
      · rw [e2]; exact e
      · exact h j (by omega) hl
    · exact ⟨n + 1, hn, h, e⟩
theorem among_012 (n : Int) (w0 : World) (b : Bool) (hb : (n == 0 || n == 1 || n == 2) = b) :
    Calls Tryz.prog 105 #[.int .i64 n, .slice (some ⟨w0.heap.size, 0, none⟩) 3 3] (w0.alloc (.cells #[.int .i64 0, .int .i64 1, .int .i64 2] 3)) fun e w' => e = .returned (.bool b) ∧ Up (w0.alloc (.cells #[.int .i64 0, .int .i64 1, .int .i64 2] 3)) w' :=
  among_lit n _ 3 [0, 1, 2] _ w0 _ rfl rfl (by decide) b ((first_among n).trans hb) rfl rfl
theorem among_123 (n : Int) (w0 : World) (b : Bool) (hb : rtl n = b) :
    Calls Tryz.prog 105 #[.int .i64 n, .slice (some ⟨w0.heap.size, 0, none⟩) 3 3] (w0.alloc (.cells #[.int .i64 1, .int .i64 2, .int .i64 3] 3)) fun e w' => e = .returned (.bool b) ∧ Up (w0.alloc (.cells #[.int .i64 1, .int .i64 2, .int .i64 3] 3)) w' :=
  among_lit n _ 3 [1, 2, 3] _ w0 _ rfl rfl (by decide) b ((rtl_among n).trans hb) rfl rfl
theorem among_1243 (n : Int) (w0 : World) (b : Bool) (hb : endR n = b) :
    Calls Tryz.prog 105 #[.int .i64 n, .slice (some ⟨w0.heap.size, 0, none⟩) 4 4] (w0.alloc (.cells #[.int .i64 1, .int .i64 2, .int .i64 4, .int .i64 3] 3)) fun e w' => e = .returned (.bool b) ∧ Up (w0.alloc (.cells #[.int .i64 1, .int .i64 2, .int .i64 4, .int .i64 3] 3)) w' :=
  among_lit n _ 4 [1, 2, 4, 3] _ w0 _ rfl rfl (by decide) b ((endR_among n).trans hb) rfl rfl
theorem own_int64 {w : World} {base : Nat} {t : TypeId} {A : Option Addr} {n c : Nat} {l : List Int} (h : w.ownsRow base t 1 (.slice A n c) n (l.map (Value.int .i64))) : Ints .i64 w A l := by
  rcases own_cases h with ⟨hv, hn, hx⟩ | ⟨g, cap, hv, _, _, hc⟩
  · intro i u hu
    rw [hx] at hu
    simp at hu
  · cases hv
    intro i u hu
    refine ⟨⟨g, 0, none⟩, rfl, ?_⟩
    rw [show (⟨g, 0, none⟩ : Addr).add i = ⟨g, i, none⟩ by unfold Addr.add; split <;> simp_all]
    exact hc i u hu
theorem among_len (n : Int) (A : Option Addr) (c : Nat) (x : List Int) (m : Nat) (w : World) (hm : x.length = m) (hI : Ints .i64 w A x) (hx : x.length < 4611686018427387904) (b : Bool) (hb : amongB n x = b) :
    Calls Tryz.prog 105 #[.int .i64 n, .slice A m c] w fun e w' => e = .returned (.bool b) ∧ Up w w' := by
  subst hm
  exact among_calls n A c x w hI hx b hb
theorem addr_add0 (a : Addr) : a.add 0 = a := by
  unfold Addr.add
  split <;> simp_all
theorem i64Info : (Tryz.prog.info? 3).map (fun i => (i.zero.map (fun z => z.cells.size), i.size, i.bytes)) = some (some 1, 1, 8) := by kernel_rfl
theorem i64_info : ∃ (i : TypeInfo) (z : Value), Tryz.prog.info? 3 = some i ∧ i.zero = some z ∧ i.size = 1 ∧ i.bytes = 8 ∧ z.cells.size = 1 := by
  have := i64Info
  cases hi : Tryz.prog.info? 3 with
  | none => rw [hi] at this; cases this
  | some i =>
    rw [hi] at this
    simp only [Option.map_some, Option.some.injEq, Prod.mk.injEq] at this
    obtain ⟨h1, h2, h3⟩ := this
    cases hz : i.zero with
    | none => rw [hz] at h1; cases h1
    | some z =>
      rw [hz] at h1
      exact ⟨i, z, rfl, hz, h2, h3, by simpa using h1⟩
end Go.Proofs.YthneeainigdmhaaGreat.M
