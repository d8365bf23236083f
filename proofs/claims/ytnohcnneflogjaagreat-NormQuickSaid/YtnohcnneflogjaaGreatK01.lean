/- The plain law: what a table of records says. No program in sight. -/
import Derived.RowKit
import Derived.RowKit3
import Derived.Below
set_option maxHeartbeats 4000000
set_option linter.unusedVariables false
namespace Go.Proofs.YtnohcnneflogjaaGreat.M
open Go.RowKit
structure Az (p : Prop) : Prop where
 out : p
theorem bqf {α : Type} [BEq α] [LawfulBEq α] {a b : α} (h : a ≠ b) : (a == b) = false := beq_eq_false_iff_ne.mpr h
theorem dFz {p : Prop} [inst : Decidable p] (h : ¬p) : decide p = false := decide_eq_false h
theorem dTz {p : Prop} [inst : Decidable p] (h : p) : decide p = true := decide_eq_true h
def rd (l : List Int) (i : Int) : Int := l.getD i.toNat 0
theorem rd_nat (l : List Int) (i : Nat) : rd l (i : Int) = l.getD i 0 := rfl
theorem rd_get (l : List Int) (i : Nat) (h : i < l.length) : rd l (i : Int) = l[i] := by simp [rd, h]
structure Rec where
 kind : Int
 lo : Int
 hi : Int
 n : Int
 to : List Int
 name : ByteArray
 other : ByteArray
 weight : Nat
instance : Inhabited Rec := ⟨⟨0, 0, 0, 0, [], ByteArray.empty, ByteArray.empty, 0⟩⟩
structure Rec.Wf (x : Rec) : Prop where
 kind : (Lit.int .i64 x.kind).wf = true
 lo : (Lit.int .i64 x.lo).wf = true
 hi : (Lit.int .i64 x.hi).wf = true
 n : (Lit.int .i64 x.n).wf = true
 to : ∀ c ∈ x.to, (Lit.int .i32 c).wf = true
 weight : x.weight < 18446744073709551616
 len : x.to.length * 4 ≤ 140737488351232
 name : x.name.size ≤ maxLen
 other : x.other.size ≤ maxLen
def validB (c : Int) : Bool := decide (0 ≤ c) && decide (c ≤ 1114111) && (decide (c < 55296) || decide (57343 < c))
def fams : List Int := [0, 1, 1, 1, 1, 1, 2, 3, 3, 4, 5, 6, 7, 8, 9, 10]
def fam (k : Int) : Int := if 1 ≤ k ∧ k ≤ 15 then rd fams k else 0
def listB (l : List Int) (lo hi : Int) : Bool := decide (lo ≤ (l.length : Int)) && decide ((l.length : Int) ≤ hi) && l.all validB
def bt (s : ByteArray) (i : Int) : Int := ((s.data.toList.getD i.toNat 0).toNat : Int)
theorem bt_at (s : ByteArray) (i : Nat) (h : i < s.size) : ((s[i]'h).toNat : Int) = bt s (i : Int) := by
 have h' : i < s.data.toList.length := by simpa using h
 simp only [bt, Int.toNat_natCast, List.getD, List.getElem?_eq_getElem h', Option.getD_some]
 rfl
def lowB (s : ByteArray) (j : Nat) : Bool := !decide (bt s j < 97) && !decide (122 < bt s j)
def tailB (s : ByteArray) (i : Nat) : Bool := (List.range' i (4 - i)).all (lowB s)
def nameB (s : ByteArray) : Bool := decide ((s.size : Int) = 4) && (!decide (bt s 0 < 65) && !decide (90 < bt s 0)) && tailB s 1
theorem tail_step (s : ByteArray) (i : Nat) (h : i < 4) : tailB s i = (lowB s i && tailB s (i + 1)) := by
 unfold tailB
 obtain ⟨k, hk⟩ : ∃ k, 4 - i = k + 1 := ⟨3 - i, by omega⟩
 rw [hk, List.range'_succ, List.all_cons]
 have : 4 - (i + 1) = k := by omega
 rw [this]
def weightB (b : Nat) : Bool := decide ((b : Int) ≤ 9218868437227405312)
def bareB (x : Rec) (n tt nm ot wt : Bool) : Bool := (n || decide (x.n = 0)) && (tt || decide (x.to.length = 0)) && (nm || decide (x.name.toList = [])) && (ot || decide (x.other.toList = [])) && (wt || ((x.weight : Int) == 0))
def oneB (x : Rec) : Bool := decide (x.lo = x.hi) && validB (wrap32 x.lo)
def spanB (x : Rec) : Bool := decide (0 ≤ x.lo) && decide (x.lo ≤ x.hi) && decide (x.hi ≤ 1114111)
def shiftsB (x : Rec) : Bool := decide (1 ≤ x.n) && decide (x.n ≤ 64) && (decide (x.to.length = 1) && validB (rd x.to 0) && (validB (wrap32 (rd x.to 0 + wrap32 (wrap64 (x.hi - x.lo)))) && (decide (wrap32 (rd x.to 0 + wrap32 (wrap64 (x.hi - x.lo))) < 55296) == decide (rd x.to 0 < 55296))))
def fitsB (x : Rec) : Bool :=
 if x.kind = 3 then bareB x false true false false false && listB x.to 1 24
 else if x.kind = 4 then bareB x true true false false false && shiftsB x
 else if x.kind = 5 then bareB x false true false false false && (oneB x && listB x.to 0 24)
 else if x.kind = 6 then bareB x true false false false false && (decide (1 ≤ x.n) && decide (x.n ≤ 254))
 else if x.kind = 7 then bareB x false true false false false && (oneB x && listB x.to 2 2)
 else if x.kind = 8 then bareB x false true false false false && (oneB x && listB x.to 1 2)
 else if x.kind = 9 then bareB x true false false false false && (decide (0 ≤ x.n) && decide (x.n ≤ 10))
 else if x.kind = 10 then bareB x true false false false false && (decide (0 ≤ x.n) && decide (x.n ≤ 5))
 else if x.kind = 12 then bareB x false false true false false && nameB x.name
 else if x.kind = 13 then bareB x false true false false false && (oneB x && listB x.to 1 24)
 else if x.kind = 14 then bareB x false false false false true && weightB x.weight
 else if x.kind = 15 then bareB x false false true true true && (nameB x.name && (nameB x.other && (!(x.name.toList == x.other.toList) && weightB x.weight)))
 else bareB x false false false false false
def rightE (x : Rec) : Int :=
 if fam x.kind = 0 then 60
 else if (if x.kind = 15 then decide (x.lo = 0) && decide (x.hi = 0) else spanB x) && fitsB x then 0 else 61
def speaksB (x : Rec) (c : Int) : Bool := decide (0 ≤ c) && decide (c ≤ 1114111) && decide (x.lo ≤ c) && decide (c ≤ x.hi) && (decide (x.kind ≠ 4) || decide ((c - x.lo) % x.n = 0))
def hitB (f : Int) (c : Int) (x : Rec) : Bool := decide (fam x.kind = f) && speaksB x c
def findI (T : List Rec) (f : Int) (c : Int) : Option Nat := T.findIdx? (hitB f c)
def findR (T : List Rec) (f : Int) (c : Int) : Option Rec := T.find? (hitB f c)
def syl (c : Int) : Bool := decide (44032 ≤ c) && decide (c ≤ 55203)
def jl (c : Int) : Bool := decide (4352 ≤ c) && decide (c ≤ 4370)
def jv (c : Int) : Bool := decide (4449 ≤ c) && decide (c ≤ 4469)
def jt (c : Int) : Bool := decide (4520 ≤ c) && decide (c ≤ 4546)
def sylA (c : Int) : Int := if (c - 44032) % 28 = 0 then 4352 + (c - 44032) / 588 else c - (c - 44032) % 28
def sylB (c : Int) : Int := if (c - 44032) % 28 = 0 then 4449 + (c - 44032) / 28 % 21 else 4519 + (c - 44032) % 28
def openF (T : List Rec) (c : Int) : List Int := if syl c then [sylA c, sylB c] else match findR T 3 c with | some r => r.to | none => []
def classF (T : List Rec) (c : Int) : Int := match findR T 2 c with | some r => r.n | none => 0
def primB (T : List Rec) (c : Int) : Bool := syl c || (match findR T 3 c with | some r => decide (r.kind = 7) && decide (r.to.length = 2) | none => false)
def walkF (T : List Rec) : Nat → Int → List Int → List Int → Except Int (List Int)
 | fuel, c, way, out =>
   if openF T c = [] then (if out.length = 32 then .error 2 else .ok (out ++ [c]))
   else if c ∈ way then .error 72
   else match fuel with
    | 0 => .error 73
    | fuel + 1 => (openF T c).foldlM (fun o t => walkF T fuel t (way ++ [c]) o) out
def fullF (T : List Rec) (c : Int) : Except Int (List Int) := walkF T 16 c [] []
noncomputable def meetB (a b : Rec) : Bool := open Classical in decide (∃ c, speaksB a c = true ∧ speaksB b c = true)
noncomputable def clashB (a b : Rec) : Bool := decide (fam a.kind = fam b.kind) && (if a.kind = 15 then (((a.name.toList == b.name.toList) && (a.other.toList == b.other.toList)) || ((a.name.toList == b.other.toList) && (a.other.toList == b.name.toList))) else meetB a b)
def firstE (f : Nat → Int) : Nat → Nat → Option (Nat × Int)
 | 0, _ => none
 | n + 1, i => if f i = 0 then firstE f n (i + 1) else some (i, f i)
noncomputable def twiceE (T : List Rec) (i : Nat) : Int := if (T.take i).any (fun o => clashB o (T.getD i default)) then 62 else 0
noncomputable def tableE (T : List Rec) : Nat × Int :=
 if 4096 < T.length then (0, 3)
 else match firstE (fun i => rightE (T.getD i default)) T.length 0 with
  | some r => r
  | none => (firstE (twiceE T) T.length 0).getD (0, 0)
def fallsB (T : List Rec) (x : List Int) : Bool := (List.range' 1 (x.length - 1)).any (fun i => decide (classF T (x.getD i 0) ≠ 0) && decide (classF T (x.getD (i - 1) 0) > classF T (x.getD i 0)))
def coversB (x : Rec) (lo hi : Int) : Bool := decide (x.lo ≤ hi) && decide (lo ≤ x.hi)
def hangulB (x : Rec) : Bool := coversB x 4352 4370 || coversB x 4449 4469 || coversB x 4520 4546 || coversB x 44032 55203 ||
 (decide (x.kind = 7) && (jl (rd x.to 0) && jv (rd x.to 1) || syl (rd x.to 0) && decide ((rd x.to 0 - 44032) % 28 = 0) && jt (rd x.to 1)))
def pairsB (T : List Rec) (x : Rec) : Bool := decide (classF T x.lo = 0) && decide (classF T (rd x.to 0) = 0) && decide (openF T (rd x.to 1) = []) && (decide (openF T (rd x.to 0) = []) || primB T (rd x.to 0)) && decide (128 ≤ rd x.to 1) && decide (rd x.to 0 ≠ 46)
def wrongE (T : List Rec) (x : Rec) : Int :=
 if fam x.kind ≠ 2 ∧ fam x.kind ≠ 3 then 0
 else if x.lo < 128 then 70
 else if hangulB x then 71
 else if fam x.kind = 2 then 0
 else match fullF T x.lo with
  | .error e => e
  | .ok l => if fallsB T l then 75 else if x.kind = 7 ∧ pairsB T x = false then 74 else 0
def againB (T : List Rec) (i : Nat) : Bool := decide ((T.getD i default).kind = 7) && (T.take i).any (fun o => decide (o.kind = 7) && decide (rd o.to 0 = rd (T.getD i default).to 0) && decide (rd o.to 1 = rd (T.getD i default).to 1))
def recordE (T : List Rec) (i : Nat) : Int := if wrongE T (T.getD i default) ≠ 0 then wrongE T (T.getD i default) else if againB T i then 74 else 0
def plainB (T : List Rec) (c : Int) : Bool := match findR T 1 c with | some r => decide (r.kind = 1) | none => false
def bases : List Int := [97, 98, 99, 100, 101, 102, 103, 104, 105, 106, 107, 108, 109, 110, 111, 112, 113, 114, 115, 116, 117, 118, 119, 120, 121, 122, 48, 49, 50, 51, 52, 53, 54, 55, 56, 57, 45, 46]
noncomputable def checkE (T : List Rec) : Nat × Int :=
 if (tableE T).2 ≠ 0 then tableE T
 else match firstE (recordE T) T.length 0 with
  | some r => r
  | none => if bases.all (plainB T) then (0, 0) else (T.length, 70)
end Go.Proofs.YtnohcnneflogjaaGreat.M
namespace Go.Proofs.YtnohcnneflogjaaGreat.M
open Go.RowKit
theorem firstE_none (f : Nat → Int) : ∀ n i, firstE f n i = none ↔ ∀ j, i ≤ j → j < i + n → f j = 0
 | 0, i => by simp [firstE]; omega
 | n + 1, i => by
   unfold firstE
   split
   ·rename_i h
    rw [firstE_none f n (i + 1)]
    constructor
    ·intro H j h1 h2
     by_cases hj : j = i
     ·rw [hj]; exact h
     ·exact H j (by omega) (by omega)
    ·intro H j h1 h2
     exact H j (by omega) (by omega)
   ·rename_i h
    simp only [reduceCtorEq, false_iff]
    intro H
    exact h (H i (Nat.le_refl _) (by omega))
theorem firstE_some (f : Nat → Int) : ∀ n i j e, firstE f n i = some (j, e) → i ≤ j ∧ j < i + n ∧ f j = e ∧ e ≠ 0
 | 0, i, j, e, h => by simp [firstE] at h
 | n + 1, i, j, e, h => by
   unfold firstE at h
   split at h
   ·have := firstE_some f n (i + 1) j e h
    omega
   ·rename_i hne
    simp only [Option.some.injEq, Prod.mk.injEq] at h
    obtain ⟨rfl, rfl⟩ := h
    exact ⟨Nat.le_refl _, by omega, rfl, hne⟩
theorem fam_range (k : Int) : fam k = 0 ∨ (1 ≤ k ∧ k ≤ 15) := by
 unfold fam
 split
 ·right; assumption
 ·left; rfl
theorem fam_cases {k : Int} (h1 : 1 ≤ k) (h2 : k ≤ 15) : k = 1 ∨ k = 2 ∨ k = 3 ∨ k = 4 ∨ k = 5 ∨ k = 6 ∨ k = 7 ∨ k = 8 ∨ k = 9 ∨ k = 10 ∨ k = 11 ∨ k = 12 ∨ k = 13 ∨ k = 14 ∨ k = 15 := by omega
theorem fam_le (k : Int) : 0 ≤ fam k ∧ fam k ≤ 10 := by
 rcases fam_range k with h | ⟨h1, h2⟩
 ·omega
 ·rcases fam_cases h1 h2 with rfl | rfl | rfl | rfl | rfl | rfl | rfl | rfl | rfl | rfl | rfl | rfl | rfl | rfl | rfl <;> decide
theorem fam_ten (k : Int) : fam k = 10 ↔ k = 15 := by
 rcases fam_range k with h | ⟨h1, h2⟩
 ·constructor
  ·intro h'; omega
  ·rintro rfl; exact absurd h (by decide)
 ·rcases fam_cases h1 h2 with rfl | rfl | rfl | rfl | rfl | rfl | rfl | rfl | rfl | rfl | rfl | rfl | rfl | rfl | rfl <;> decide
def Right (x : Rec) : Prop := rightE x = 0
theorem right_iff (x : Rec) : Right x ↔ fam x.kind ≠ 0 ∧ (if x.kind = 15 then decide (x.lo = 0) && decide (x.hi = 0) else spanB x) = true ∧ fitsB x = true := by
 unfold Right rightE
 generalize (if x.kind = 15 then decide (x.lo = 0) && decide (x.hi = 0) else spanB x) = s
 generalize fitsB x = f
 by_cases h : fam x.kind = 0 <;> cases s <;> cases f <;> simp [h]
theorem Right.fits {x : Rec} (h : Right x) : fitsB x = true := ((right_iff x).1 h).2.2
theorem Right.span {x : Rec} (h : Right x) (hk : x.kind ≠ 15) : 0 ≤ x.lo ∧ x.lo ≤ x.hi ∧ x.hi ≤ 1114111 := by
 have := ((right_iff x).1 h).2.1
 rw [if_neg hk] at this
 simp [spanB] at this
 omega
theorem Right.mix {x : Rec} (h : Right x) (hk : x.kind = 15) : x.lo = 0 ∧ x.hi = 0 := by
 have := ((right_iff x).1 h).2.1
 rw [if_pos hk] at this
 simpa using this
theorem Right.fam {x : Rec} (h : Right x) : fam x.kind ≠ 0 := ((right_iff x).1 h).1
theorem Right.kind {x : Rec} (h : Right x) : 1 ≤ x.kind ∧ x.kind ≤ 15 := by
 rcases fam_range x.kind with h' | h'
 ·exact absurd h' h.fam
 ·exact h'
theorem Right.shift {x : Rec} (h : Right x) (hk : x.kind = 4) : 1 ≤ x.n ∧ x.n ≤ 64 ∧ x.to.length = 1 := by
 have := h.fits
 unfold fitsB at this
 rw [if_neg (by omega), if_pos hk] at this
 simp [shiftsB] at this
 omega
theorem Right.low {x : Rec} (h : Right x) : 0 ≤ x.lo ∧ x.lo ≤ x.hi ∧ x.hi ≤ 1114111 := by
 by_cases hk : x.kind = 15
 ·have := h.mix hk; omega
 ·exact h.span hk
def stepI (x : Rec) : Int := if x.kind = 4 then x.n else 1
theorem Right.step {x : Rec} (h : Right x) : 1 ≤ stepI x ∧ stepI x ≤ 64 := by
 unfold stepI
 split
 ·rename_i hk; have := h.shift hk; omega
 ·omega
theorem speaks_iff {x : Rec} (h : Right x) (c : Int) : speaksB x c = true ↔ x.lo ≤ c ∧ c ≤ x.hi ∧ (c - x.lo) % stepI x = 0 := by
 have h1 := h.low
 unfold speaksB stepI
 by_cases hk : x.kind = 4 <;> simp [hk] <;> omega
def meetL (b : Rec) (s hi : Int) : Nat → Int → Bool
 | 0, _ => false
 | k + 1, c => if hi < c then false else if speaksB b c then true else meetL b s hi k (c + s)
theorem meetL_iff (b : Rec) (s hi : Int) (hs : 1 ≤ s) : ∀ (K : Nat) (c : Int), meetL b s hi K c = true ↔ ∃ k : Nat, k < K ∧ c + k * s ≤ hi ∧ speaksB b (c + k * s) = true
 | 0, c => by simp [meetL]
 | K + 1, c => by
   unfold meetL
   have shift : ∀ k : Nat, c + s + k * s = c + ((k + 1 : Nat) : Int) * s := fun k => by rw [Int.natCast_add, Int.add_mul]; omega
   split
   ·rename_i h
    simp only [Bool.false_eq_true, false_iff]
    rintro ⟨k, _, h2, _⟩
    have : 0 ≤ (k : Int) * s := Int.mul_nonneg (by omega) (by omega)
    omega
   ·rename_i h
    split
    ·rename_i hb
     simp only [true_iff]
     exact ⟨0, by omega, by simp; omega, by simpa using hb⟩
    ·rename_i hb
     rw [meetL_iff b s hi hs K (c + s)]
     constructor
     ·rintro ⟨k, h1, h2, h3⟩
      rw [shift k] at h2 h3
      exact ⟨k + 1, by omega, h2, h3⟩
     ·rintro ⟨k, h1, h2, h3⟩
      cases k with
      | zero => exact absurd (by simpa using h3) hb
      | succ k => exact ⟨k, by omega, by rw [shift k]; exact h2, by rw [shift k]; exact h3⟩
def firstC (a : Rec) (lo : Int) : Int := a.lo + (lo - a.lo + stepI a - 1) / stepI a * stepI a
theorem firstC_spec {a : Rec} {lo : Int} (hs : 1 ≤ stepI a) (hl : a.lo ≤ lo) : lo ≤ firstC a lo ∧ firstC a lo < lo + stepI a ∧ (firstC a lo - a.lo) % stepI a = 0 := by
 unfold firstC
 generalize stepI a = s at *
 have h1 := Int.mul_ediv_add_emod (lo - a.lo + s - 1) s
 have h2 := Int.emod_nonneg (lo - a.lo + s - 1) (show s ≠ 0 by omega)
 have h3 := Int.emod_lt_of_pos (lo - a.lo + s - 1) (show 0 < s by omega)
 rw [Int.mul_comm] at h1
 refine ⟨by omega, by omega, ?_⟩
 rw [show a.lo + (lo - a.lo + s - 1) / s * s - a.lo = (lo - a.lo + s - 1) / s * s by omega]
 exact Int.mul_emod_left _ _
theorem meetB_iff (a b : Rec) : meetB a b = true ↔ ∃ c, speaksB a c = true ∧ speaksB b c = true := by
 unfold meetB
 simp
theorem search_meets {a b : Rec} (ha : Right a) (hb : Right b) : meetL b (stepI a) (min a.hi b.hi) 64 (firstC a (max a.lo b.lo)) = meetB a b := by
 have sa := ha.step
 have sb := hb.step
 have la := ha.low
 have lb := hb.low
 obtain ⟨f1, f2, f3⟩ := firstC_spec (lo := max a.lo b.lo) sa.1 (by omega)
 generalize hc0 : firstC a (max a.lo b.lo) = c0 at *
 rw [Bool.eq_iff_iff, meetL_iff _ _ _ sa.1, meetB_iff]
 constructor
 ·rintro ⟨k, h1, h2, h3⟩
  refine ⟨c0 + k * stepI a, ?_, h3⟩
  rw [speaks_iff ha]
  have : 0 ≤ (k : Int) * stepI a := Int.mul_nonneg (by omega) (by omega)
  refine ⟨by omega, by omega, ?_⟩
  rw [show c0 + (k : Int) * stepI a - a.lo = (c0 - a.lo) + (k : Int) * stepI a by omega, Int.add_mul_emod_self_right]
  exact f3
 ·rintro ⟨c, h1, h2⟩
  rw [speaks_iff ha] at h1
  have h2' := h2
  rw [speaks_iff hb] at h2
  -- c is one of those from c0 on
  obtain ⟨k, hk⟩ : ∃ k : Nat, c = c0 + k * stepI a := by
   have hd : (c - c0) % stepI a = 0 := by
    have : c - c0 = (c - a.lo) - (c0 - a.lo) := by omega
    rw [this, Int.sub_emod, h1.2.2, f3]
    simp
   have hm := Int.mul_ediv_add_emod (c - c0) (stepI a)
   rw [hd, Int.mul_comm] at hm
   have hge : 0 ≤ (c - c0) / stepI a := by
    refine Decidable.byContradiction fun hn => ?_
    have hq : (c - c0) / stepI a ≤ -1 := by omega
    have := Int.mul_le_mul_of_nonneg_right hq (show 0 ≤ stepI a by omega)
    omega
   refine ⟨((c - c0) / stepI a).toNat, ?_⟩
   rw [Int.toNat_of_nonneg hge]
   omega
  have key : ∀ k : Nat, c0 + k * stepI a ≤ min a.hi b.hi → speaksB b (c0 + k * stepI a) = true → ∃ k : Nat, k < 64 ∧ c0 + k * stepI a ≤ min a.hi b.hi ∧ speaksB b (c0 + k * stepI a) = true := by
   intro k
   induction k using Nat.strongRecOn with
   | ind k ih =>
     intro g1 g2
     by_cases hk : k < 64
     ·exact ⟨k, hk, g1, g2⟩
     ·have hm : (stepI b).toNat ≤ k := by omega
      have hmi : ((stepI b).toNat : Int) = stepI b := Int.toNat_of_nonneg (by omega)
      have e : ((k - (stepI b).toNat : Nat) : Int) * stepI a = (k : Int) * stepI a - stepI b * stepI a := by
       rw [Int.natCast_sub hm, hmi, Int.sub_mul]
      have p1 : 0 ≤ stepI b * stepI a := Int.mul_nonneg (by omega) (by omega)
      have p2 : 0 ≤ ((k - (stepI b).toNat : Nat) : Int) * stepI a := Int.mul_nonneg (by omega) (by omega)
      refine ih (k - (stepI b).toNat) (by omega) (by rw [e]; omega) ?_
      rw [speaks_iff hb] at g2 ⊢
      rw [e] at p2 ⊢
      refine ⟨by omega, by omega, ?_⟩
      rw [show c0 + ((k : Int) * stepI a - stepI b * stepI a) - b.lo = (c0 + (k : Int) * stepI a - b.lo) + (-stepI a) * stepI b by rw [Int.neg_mul, Int.mul_comm (stepI a)]; omega, Int.add_mul_emod_self_right]
      exact g2.2.2
  exact key k (by omega) (by rw [← hk]; exact h2')
theorem meetB_comm (a b : Rec) : meetB a b = meetB b a := by
 rw [Bool.eq_iff_iff, meetB_iff, meetB_iff]
 constructor <;> (rintro ⟨c, h1, h2⟩; exact ⟨c, h2, h1⟩)
theorem meet_plain {a b : Rec} (ha : Right a) (hb : Right b) (k1 : a.kind ≠ 4) (k2 : b.kind ≠ 4) : meetB a b = decide (max a.lo b.lo ≤ min a.hi b.hi) := by
 have la := ha.low
 have lb := hb.low
 rw [Bool.eq_iff_iff, meetB_iff, decide_eq_true_eq]
 have s1 : stepI a = 1 := if_neg k1
 have s2 : stepI b = 1 := if_neg k2
 constructor
 ·rintro ⟨c, h1, h2⟩
  rw [speaks_iff ha] at h1
  rw [speaks_iff hb] at h2
  omega
 ·intro h
  refine ⟨max a.lo b.lo, (speaks_iff ha _).2 ?_, (speaks_iff hb _).2 ?_⟩
  ·rw [s1]; omega
  ·rw [s2]; omega
theorem meet_empty {a b : Rec} (ha : Right a) (hb : Right b) (h : min a.hi b.hi < max a.lo b.lo) : meetB a b = false := by
 rw [← Bool.not_eq_true, meetB_iff]
 rintro ⟨c, h1, h2⟩
 rw [speaks_iff ha] at h1
 rw [speaks_iff hb] at h2
 omega
theorem tableE_right {T : List Rec} (h : (tableE T).2 = 0) : T.length ≤ 4096 ∧ (∀ x ∈ T, Right x) ∧ ∀ (i j : Nat) (a b : Rec), i < j → T[i]? = some a → T[j]? = some b → clashB a b = false := by
 unfold tableE at h
 split at h
 ·cases h
 ·rename_i hl
  split at h
  ·rename_i r hr
   obtain ⟨j, e⟩ := r
   exact absurd h (firstE_some _ _ _ j e hr).2.2.2
  ·rename_i hn
   rw [firstE_none] at hn
   have hall : ∀ x ∈ T, Right x := by
    intro x hx
    obtain ⟨i, hi, rfl⟩ := List.getElem_of_mem hx
    have := hn i (Nat.zero_le _) (by omega)
    have hg : T.getD i default = T[i] := by simp [List.getD, hi]
    rw [hg] at this
    exact this
   refine ⟨by omega, hall, ?_⟩
   cases ht : firstE (twiceE T) T.length 0 with
   | some r =>
     obtain ⟨j, e⟩ := r
     rw [ht] at h
     exact absurd h (firstE_some _ _ _ j e ht).2.2.2
   | none =>
     rw [firstE_none] at ht
     intro i j a b hij ha hb
     have hjl : j < T.length := (List.getElem?_eq_some_iff.1 hb).1
     have hil : i < T.length := (List.getElem?_eq_some_iff.1 ha).1
     have := ht j (Nat.zero_le _) (by omega)
     unfold twiceE at this
     split at this
     ·cases this
     ·rename_i hno
      rw [Bool.not_eq_true, List.any_eq_false] at hno
      have := hno a (by
       refine List.mem_iff_getElem?.2 ⟨i, ?_⟩
       rw [List.getElem?_take, if_pos hij, ha])
      have hg : T.getD j default = b := by rw [List.getD, hb]; rfl
      rw [hg] at this
      simpa using this
theorem tableE_right' {T : List Rec} (h1 : T.length ≤ 4096) (h2 : ∀ x ∈ T, Right x) (h3 : ∀ (i j : Nat) (a b : Rec), i < j → T[i]? = some a → T[j]? = some b → clashB a b = false) : tableE T = (0, 0) := by
 unfold tableE
 rw [if_neg (by omega), (firstE_none _ _ _).2 (by
  intro j _ hj
  have hj' : j < T.length := by omega
  have hg : T.getD j default = T[j] := by simp [List.getD, hj']
  show rightE (T.getD j default) = 0
  rw [hg]
  exact h2 T[j] (List.getElem_mem hj'))]
 show (firstE (twiceE T) T.length 0).getD (0, 0) = (0, 0)
 rw [(firstE_none _ _ _).2 (by
  intro j _ hj
  have hj' : j < T.length := by omega
  unfold twiceE
  rw [if_neg]
  rw [Bool.not_eq_true, List.any_eq_false]
  intro a ha
  obtain ⟨i, hi⟩ := List.mem_iff_getElem?.1 ha
  rw [List.getElem?_take] at hi
  split at hi
  ·rename_i hij
   have := h3 i j a T[j] hij hi (List.getElem?_eq_getElem hj')
   have hg : T.getD j default = T[j] := by simp [List.getD, hj']
   rw [hg]
   simp [this]
  ·cases hi)]
 rfl
end Go.Proofs.YtnohcnneflogjaaGreat.M
namespace Go.Proofs.YtnohcnneflogjaaGreat.M
open Go.RowKit
theorem getD_at {T : List Rec} {i : Nat} {x : Rec} (h : T[i]? = some x) : T.getD i default = x := by rw [List.getD, h]; rfl
section
variable {T : List Rec} {x : Rec}
theorem wrongE_other (h2 : fam x.kind ≠ 2) (h3 : fam x.kind ≠ 3) : wrongE T x = 0 := by
 unfold wrongE
 rw [if_pos ⟨h2, h3⟩]
theorem wrongE_base (hf : fam x.kind = 2 ∨ fam x.kind = 3) (h : x.lo < 128) : wrongE T x = 70 := by
 unfold wrongE
 rw [if_neg (fun hh => by rcases hf with e | e; exact hh.1 e; exact hh.2 e), if_pos h]
theorem wrongE_hangul (hf : fam x.kind = 2 ∨ fam x.kind = 3) (h : ¬ x.lo < 128) (hh : hangulB x = true) : wrongE T x = 71 := by
 unfold wrongE
 rw [if_neg (fun hh => by rcases hf with e | e; exact hh.1 e; exact hh.2 e), if_neg h, if_pos hh]
theorem wrongE_class (hf : fam x.kind = 2) (h : ¬ x.lo < 128) (hh : hangulB x = false) : wrongE T x = 0 := by
 unfold wrongE
 rw [if_neg (fun hh => hh.1 hf), if_neg h, if_neg (by rw [hh]; decide), if_pos hf]
theorem wrongE_three (hf : fam x.kind = 3) (h : ¬ x.lo < 128) (hh : hangulB x = false) : wrongE T x = (match fullF T x.lo with
 | .error e => e
 | .ok l => if fallsB T l then 75 else if x.kind = 7 ∧ pairsB T x = false then 74 else 0) := by
 unfold wrongE
 rw [if_neg (fun hh => hh.2 hf), if_neg h, if_neg (by rw [hh]; decide), if_neg (by rw [hf]; decide)]
 first | done | (cases fullF T x.lo <;> rfl)
theorem wrongE_err (hf : fam x.kind = 3) (h : ¬ x.lo < 128) (hh : hangulB x = false) {n : Int} (hu : fullF T x.lo = .error n) : wrongE T x = n := by rw [wrongE_three hf h hh, hu]
theorem wrongE_falls (hf : fam x.kind = 3) (h : ¬ x.lo < 128) (hh : hangulB x = false) {l : List Int} (hu : fullF T x.lo = .ok l) (hl : fallsB T l = true) : wrongE T x = 75 := by
 rw [wrongE_three hf h hh, hu]
 exact if_pos hl
theorem wrongE_pair (hf : fam x.kind = 3) (h : ¬ x.lo < 128) (hh : hangulB x = false) {l : List Int} (hu : fullF T x.lo = .ok l) (hl : fallsB T l = false) (hk : x.kind = 7) (hp : pairsB T x = false) : wrongE T x = 74 := by
 rw [wrongE_three hf h hh, hu]
 show (if fallsB T l = true then _ else _) = _
 rw [if_neg (by rw [hl]; decide), if_pos ⟨hk, hp⟩]
theorem wrongE_ok (hf : fam x.kind = 3) (h : ¬ x.lo < 128) (hh : hangulB x = false) {l : List Int} (hu : fullF T x.lo = .ok l) (hl : fallsB T l = false) (hp : x.kind = 7 → pairsB T x = true) : wrongE T x = 0 := by
 rw [wrongE_three hf h hh, hu]
 show (if fallsB T l = true then _ else _) = _
 rw [if_neg (by rw [hl]; decide), if_neg (fun hh => by rw [hp hh.1] at hh; exact absurd hh.2 (by decide))]
theorem recordE_wrong {i : Nat} (hx : T[i]? = some x) (h : wrongE T x ≠ 0) : recordE T i = wrongE T x := by
 unfold recordE
 rw [getD_at hx, if_pos h]
theorem recordE_right {i : Nat} (hx : T[i]? = some x) (h : wrongE T x = 0) : recordE T i = if againB T i then 74 else 0 := by
 unfold recordE
 rw [getD_at hx, if_neg (fun hh => hh h)]
def aheadB (T : List Rec) (a b : Int) (i : Nat) : Bool := (T.take i).any (fun o => decide (o.kind = 7) && decide (rd o.to 0 = a) && decide (rd o.to 1 = b))
theorem againB_no {i : Nat} (hx : T[i]? = some x) (hk : x.kind ≠ 7) : againB T i = false := by
 unfold againB
 rw [getD_at hx, dFz hk, Bool.false_and]
theorem againB_ahead {i : Nat} (hx : T[i]? = some x) (hk : x.kind = 7) : againB T i = aheadB T (rd x.to 0) (rd x.to 1) i := by
 unfold againB aheadB
 rw [getD_at hx, dTz hk, Bool.true_and]
theorem recordE_pair {i : Nat} (hx : T[i]? = some x) (hf : fam x.kind = 3) (h : ¬ x.lo < 128) (hh : hangulB x = false) {l : List Int} (hu : fullF T x.lo = .ok l) (hl : fallsB T l = false) (hk : x.kind = 7) {p : Bool} (hp : (pairsB T x && !aheadB T (rd x.to 0) (rd x.to 1) i) = p) : recordE T i = if p then 0 else 74 := by
 cases h1 : pairsB T x with
 | false =>
   have hw := wrongE_pair hf h hh hu hl hk h1
   rw [recordE_wrong hx (by rw [hw]; decide), hw]
   rw [h1] at hp
   subst hp
   rfl
 | true =>
   have hw := wrongE_ok hf h hh hu hl (fun _ => h1)
   rw [recordE_right hx hw, againB_ahead hx hk]
   rw [h1, Bool.true_and] at hp
   subst hp
   cases aheadB T (rd x.to 0) (rd x.to 1) i <;> rfl
theorem recordE_ok {i : Nat} (hx : T[i]? = some x) (hw : wrongE T x = 0) (hk : x.kind ≠ 7) : recordE T i = 0 := by
 rw [recordE_right hx hw, againB_no hx hk]
 rfl
end
end Go.Proofs.YtnohcnneflogjaaGreat.M
set_option linter.unusedSimpArgs false
namespace Go.Proofs.YtnohcnneflogjaaGreat.M
open Go.RowKit
theorem clash_same {p x : Rec} (h : fam p.kind = fam x.kind) (h15 : p.kind ≠ 15) : clashB p x = meetB p x := by
 unfold clashB
 rw [dTz h, Bool.true_and, if_neg h15]
theorem clash_mixB {p x : Rec} (h : fam p.kind = fam x.kind) (h15 : p.kind = 15) : clashB p x = (((p.name.toList == x.name.toList) && (p.other.toList == x.other.toList)) || ((p.name.toList == x.other.toList) && (p.other.toList == x.name.toList))) := by
 unfold clashB
 rw [dTz h, Bool.true_and, if_pos h15]
structure Good (T : List Rec) : Prop where
 right : ∀ x ∈ T, Right x
 wf : ∀ x ∈ T, x.Wf
 len : T.length ≤ 4096
 two : T.Pairwise (fun a b => clashB a b = false)
theorem good_of {T : List Rec} (hW : ∀ x ∈ T, x.Wf) (h : (tableE T).2 = 0) : Good T := by
 obtain ⟨h1, h2, h3⟩ := tableE_right h
 refine ⟨h2, hW, h1, ?_⟩
 rw [List.pairwise_iff_getElem]
 intro i j hi hj hij
 exact h3 i j _ _ hij (List.getElem?_eq_getElem hi) (List.getElem?_eq_getElem hj)
theorem firstE_hit {f : Nat → Int} {n i : Nat} {e : Int} (hi : i < n) (he : f i = e) (h0 : e ≠ 0) (hb : ∀ j, j < i → f j = 0) : firstE f n 0 = some (i, e) := by
 have key : ∀ (m s : Nat), s ≤ i → i < s + m → firstE f m s = some (i, e) := by
  intro m
  induction m with
  | zero => intro s h1 h2; omega
  | succ m ih =>
    intro s h1 h2
    unfold firstE
    by_cases hs : s = i
    ·subst hs
     rw [if_neg (by rw [he]; exact h0), he]
    ·rw [if_pos (hb s (by omega))]
     exact ih (s + 1) (by omega) (by omega)
 exact key n 0 (Nat.zero_le _) (by omega)
theorem getD_of {T : List Rec} {i : Nat} {x : Rec} (h : T[i]? = some x) : T.getD i default = x := by rw [List.getD, h]; rfl
theorem tableE_wrong {T : List Rec} {i : Nat} {x : Rec} (hl : T.length ≤ 4096) (hx : T[i]? = some x) (he : rightE x ≠ 0) (hb : ∀ j y, j < i → T[j]? = some y → Right y) : tableE T = (i, rightE x) := by
 have hi : i < T.length := (List.getElem?_eq_some_iff.1 hx).1
 unfold tableE
 rw [if_neg (by omega), firstE_hit hi (by rw [getD_of hx]) he (fun j hj => by
  have := hb j T[j] hj (List.getElem?_eq_getElem (by omega))
  rw [getD_of (List.getElem?_eq_getElem (show j < T.length by omega))]
  exact this)]
theorem tableE_twice {T : List Rec} {i k : Nat} {x y : Rec} (hl : T.length ≤ 4096) (hR : ∀ x ∈ T, Right x) (hx : T[i]? = some x) (hy : T[k]? = some y) (hk : k < i) (hc : clashB y x = true)
 (hb : ∀ (a b : Nat) (p q : Rec), a < b → b < i → T[a]? = some p → T[b]? = some q → clashB p q = false) : tableE T = (i, 62) := by
 have hi : i < T.length := (List.getElem?_eq_some_iff.1 hx).1
 unfold tableE
 rw [if_neg (by omega), (firstE_none _ _ _).2 (fun j _ hj => by
  have hj' : j < T.length := by omega
  show rightE (T.getD j default) = 0
  rw [getD_of (List.getElem?_eq_getElem hj')]
  exact hR _ (List.getElem_mem hj'))]
 show (firstE (twiceE T) T.length 0).getD (0, 0) = (i, 62)
 rw [firstE_hit hi (e := 62) ?_ (by decide) ?_]
 ·rfl
 ·unfold twiceE
  rw [if_pos]
  rw [List.any_eq_true]
  refine ⟨y, List.mem_iff_getElem?.2 ⟨k, by rw [List.getElem?_take, if_pos hk]; exact hy⟩, ?_⟩
  rw [getD_of hx]
  exact hc
 ·intro j hj
  unfold twiceE
  rw [if_neg]
  rw [Bool.not_eq_true, List.any_eq_false]
  intro p hp
  obtain ⟨a, ha⟩ := List.mem_iff_getElem?.1 hp
  rw [List.getElem?_take] at ha
  split at ha
  ·rename_i haj
   have hj' : j < T.length := by omega
   rw [getD_of (List.getElem?_eq_getElem hj'), hb a j p T[j] haj hj ha (List.getElem?_eq_getElem hj')]
   simp
  ·cases ha
theorem Rec.Wf.small {x : Rec} (h : x.Wf) : x.to.length < 4611686018427387904 := by have := h.len; omega
theorem checkE_table {T : List Rec} (h : (tableE T).2 ≠ 0) : checkE T = tableE T := by
 unfold checkE
 rw [if_pos h]
theorem checkE_record {T : List Rec} {i : Nat} {e : Int} (h : (tableE T).2 = 0) (hi : i < T.length) (he : recordE T i = e) (h0 : e ≠ 0) (hb : ∀ j, j < i → recordE T j = 0) : checkE T = (i, e) := by
 unfold checkE
 rw [if_neg (fun hh => hh h), firstE_hit hi he h0 hb]
theorem checkE_bases {T : List Rec} (h : (tableE T).2 = 0) (hb : ∀ j, j < T.length → recordE T j = 0) : checkE T = if bases.all (plainB T) then (0, 0) else (T.length, 70) := by
 unfold checkE
 rw [if_neg (fun hh => hh h), (firstE_none _ _ _).2 (fun j _ hj => hb j (by omega))]
end Go.Proofs.YtnohcnneflogjaaGreat.M
