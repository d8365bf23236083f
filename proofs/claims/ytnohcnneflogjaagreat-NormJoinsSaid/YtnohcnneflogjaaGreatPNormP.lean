/- Composition, plain: what composes opens again; NFD of NFC; what stands in NFC. -/
import Derived.Test.YtnohcnneflogjaaGreatK43
import Derived.Test.YtnohcnneflogjaaGreatK38
set_option maxRecDepth 100000
set_option linter.unusedVariables false
set_option linter.unusedSimpArgs false
namespace Go.Proofs.YtnohcnneflogjaaGreat.M.Nm
open St
def cmpF (T : List Rec) : List Int → Option Int → List Int → List Int
 | [], st, tl => st.toList ++ tl
 | c :: t, none, tl => if classF T c = 0 then tl ++ cmpF T t (some c) [] else cmpF T t none (tl ++ [c])
 | c :: t, some s, tl =>
   if tl.all (fun z => decide (classF T z < classF T c)) = true ∧ (compF T s c).2 = true then cmpF T t (some (compF T s c).1) tl
   else if classF T c = 0 then s :: tl ++ cmpF T t (some c) [] else cmpF T t (some s) (tl ++ [c])
def composeF (T : List Rec) (x : List Int) : List Int := cmpF T x none []
def nfdF (T : List Rec) (x : List Int) : List Int := sortF T (openX T x)
def nfcF (T : List Rec) (x : List Int) : List Int := composeF T (nfdF T x)
theorem walk_agree {T : List Rec} : ∀ (f : Nat) (d : Int) (way out l : List Int) (f' : Nat) (way' l' : List Int), walkF T f d way out = .ok l → walkF T f' d way' out = .ok l' → l = l' := by
 intro f
 induction f with
 | zero =>
   intro d way out l f' way' l' h h'
   by_cases ho : openF T d = []
   ·rw [walkF_nil ho] at h h'
    rw [h] at h'
    exact Except.ok.inj h'
   ·by_cases hw : d ∈ way
    ·rw [walkF_loop ho hw] at h; cases h
    ·rw [walkF_deep ho hw] at h; cases h
 | succ f ih =>
   intro d way out l f' way' l' h h'
   by_cases ho : openF T d = []
   ·rw [walkF_nil ho] at h h'
    rw [h] at h'
    exact Except.ok.inj h'
   ·by_cases hw : d ∈ way
    ·rw [walkF_loop ho hw] at h; cases h
    ·by_cases hw' : d ∈ way'
     ·rw [walkF_loop ho hw'] at h'; cases h'
     ·cases f' with
      | zero => rw [walkF_deep ho hw'] at h'; cases h'
      | succ f' =>
        rw [walkF_step ho hw] at h
        rw [walkF_step ho hw'] at h'
        have fold : ∀ (ts out l l' : List Int), ts.foldlM (fun o t => walkF T f t (way ++ [d]) o) out = .ok l → ts.foldlM (fun o t => walkF T f' t (way' ++ [d]) o) out = .ok l' → l = l' := by
         intro ts
         induction ts with
         | nil =>
           intro out l l' h h'
           exact (Except.ok.inj h).symm.trans (Except.ok.inj h')
         | cons t ts ih2 =>
           intro out l l' h h'
           rw [List.foldlM_cons] at h h'
           cases h1 : walkF T f t (way ++ [d]) out with
           | error e => rw [h1] at h; cases h
           | ok o =>
             cases h2 : walkF T f' t (way' ++ [d]) out with
             | error e => rw [h2] at h'; cases h'
             | ok o' =>
               rw [h1] at h
               rw [h2] at h'
               have := ih _ _ _ _ _ _ _ h1 h2
               subst this
               exact ih2 _ _ _ h h'
        exact fold _ _ _ _ h h'
theorem full_pair {T : List Rec} (hF : Fine T) {p s c : Int} (ho : openF T p = [s, c]) (hc : openF T c = []) : fullL T p = fullL T s ++ [c] := by
 have hp := hF.full p
 have hs := hF.full s
 unfold fullF at hp hs
 rw [walkF_step (by rw [ho]; exact List.cons_ne_nil _ _) (List.not_mem_nil), ho, List.foldlM_cons] at hp
 cases h1 : walkF T 15 s ([] ++ [p]) [] with
 | error e => rw [h1] at hp; cases hp
 | ok o =>
   have hh := walk_agree _ _ _ _ _ _ _ _ h1 hs
   rw [h1] at hp
   have hp2 : (([c] : List Int).foldlM (fun o t => walkF T 15 t ([] ++ [p]) o) o : Except Int (List Int)) = .ok (fullL T p) := hp
   rw [List.foldlM_cons, walkF_nil hc] at hp2
   split at hp2
   ·cases hp2
   ·have hp3 : o ++ [c] = fullL T p := Except.ok.inj hp2
    rw [← hp3, hh]
theorem full_one {T : List Rec} (hF : Fine T) {c : Int} (h : openF T c = []) : fullL T c = [c] := by
 have h1 := hF.full c
 rw [full_none h] at h1
 exact (Except.ok.inj h1).symm
theorem comp_second {T : List Rec} (hF : Fine T) {a b p : Int} (h : compF T a b = (p, true)) : openF T b = [] := by
 unfold compF at h
 split at h
 ·rename_i hc
  simp only [Bool.and_eq_true] at hc
  exact open_jamo hF (.inr (.inl hc.2))
 ·split at h
  ·rename_i hc
   simp only [Bool.and_eq_true] at hc
   exact open_jamo hF (.inr (.inr hc.2))
  ·split at h
   ·rename_i x hx
    have hm := List.mem_of_find?_eq_some hx
    obtain ⟨h7, h8, h9⟩ := pairAt_iff (List.find?_some hx)
    have hp := hF.pair_right hm h7
    unfold pairsB at hp
    simp only [Bool.and_eq_true, decide_eq_true_eq] at hp
    rw [← h9]
    exact hp.1.1.1.2
   ·injection h with _ h
    cases h
theorem full_comp {T : List Rec} (hF : Fine T) {a b p : Int} (h : compF T a b = (p, true)) : fullL T p = fullL T a ++ [b] :=
 full_pair hF (comp_yes hF h).1 (comp_second hF h)
theorem comp_eta {T : List Rec} {a b : Int} (h : (compF T a b).2 = true) : compF T a b = ((compF T a b).1, true) := by rw [← h]
section
variable (cl : Int → Int)
theorem runF_swap {a b : Int} (ha : cl a ≠ 0) (hb : cl b ≠ 0) (hab : cl a < cl b) (v : List Int) : ∀ (u : List Int) (row : List (Int × Int)), runF cl (u ++ a :: b :: v) row = runF cl (u ++ b :: a :: v) row
 | [], row => by
   show runF cl (a :: b :: v) row = runF cl (b :: a :: v) row
   rw [runF, if_neg ha, runF, if_neg hb, runF, if_neg hb, runF, if_neg ha]
   refine runF_eqv cl v _ _ (fun m => ?_)
   simp only [List.append_assoc, List.cons_append, List.nil_append]
   rw [ordM_app, ordM_app, ordM, ordM, ordM, ordM, insM_comm hab]
 | c :: u, row => by
   rw [List.cons_append, List.cons_append, runF, runF, runF_swap ha hb hab v u, runF_swap ha hb hab v u]
theorem runF_past {c : Int} (hc : cl c ≠ 0) (v : List Int) : ∀ (tl u : List Int) (row : List (Int × Int)), (∀ z ∈ tl, cl z ≠ 0 ∧ cl z < cl c) → runF cl (u ++ c :: (tl ++ v)) row = runF cl (u ++ (tl ++ c :: v)) row
 | [], u, row, _ => rfl
 | z :: tl, u, row, h => by
   have hz := h z (List.mem_cons_self ..)
   have ih := runF_past hc v tl (u ++ [z]) row (fun y hy => h y (List.mem_cons_of_mem _ hy))
   simp only [List.append_assoc, List.cons_append, List.nil_append] at ih
   rw [List.cons_append, List.cons_append, ← ih, ← runF_swap cl hz.1 hc hz.2]
end
theorem nfd_cmp {T : List Rec} (hF : Fine T) : ∀ (t u : List Int) (st : Option Int) (tl : List Int), (∀ z ∈ t, openF T z = []) → (∀ z ∈ tl, openF T z = []) → (∀ s, st = some s → ∀ z ∈ tl, classF T z ≠ 0) →
 sortF T (openX T (u ++ cmpF T t st tl)) = sortF T (openX T u ++ (openX T st.toList ++ (tl ++ t)))
 | [], u, st, tl, ht, htl, hs => by
   rw [cmpF, openX_app, openX_app, openX_shut hF tl htl, List.append_nil]
 | c :: t, u, none, tl, ht, htl, hs => by
   have hc := ht c (List.mem_cons_self ..)
   have ht' : ∀ z ∈ t, openF T z = [] := fun z hz => ht z (List.mem_cons_of_mem _ hz)
   rw [cmpF]
   split
   ·have ih := nfd_cmp hF t (u ++ tl) (some c) [] ht' (fun z hz => by cases hz) (fun s _ z hz => by cases hz)
    rw [← List.append_assoc, ih, openX_app, openX_shut hF tl htl]
    have e : openX T (some c).toList = [c] := openX_shut hF [c] (fun z hz => by rw [List.mem_singleton.1 hz]; exact hc)
    rw [e]
    simp [openX]
   ·have ih := nfd_cmp hF t u none (tl ++ [c]) ht' (fun z hz => by
     rcases List.mem_append.1 hz with hz | hz
     ·exact htl z hz
     ·rw [List.mem_singleton.1 hz]; exact hc) (fun s h => by cases h)
    rw [ih]
    simp
 | c :: t, u, some s, tl, ht, htl, hs => by
   have hc := ht c (List.mem_cons_self ..)
   have ht' : ∀ z ∈ t, openF T z = [] := fun z hz => ht z (List.mem_cons_of_mem _ hz)
   have hs' := hs s rfl
   rw [cmpF]
   split
   ·rename_i h
    obtain ⟨h1, h2⟩ := h
    have hcp := comp_eta h2
    have ih := nfd_cmp hF t u (some (compF T s c).1) tl ht' htl (fun s' _ => hs')
    rw [ih]
    have e : openX T (some (compF T s c).1).toList = openX T (some s).toList ++ [c] := by
     show openX T [_] = openX T [s] ++ [c]
     unfold openX
     simp [full_comp hF hcp]
    rw [e]
    cases tl with
    | nil => simp
    | cons z0 tl0 =>
      have hall : ∀ z ∈ z0 :: tl0, classF T z ≠ 0 ∧ classF T z < classF T c := fun z hz => ⟨hs' z hz, by simpa using List.all_eq_true.1 h1 z hz⟩
      have hcz : classF T c ≠ 0 := by
       have h3 := (hall z0 (List.mem_cons_self ..)).2
       have h4 : 0 ≤ classF T z0 := hp_of hF.toGood z0
       omega
      unfold sortF
      have := runF_past (numF T 2 (·.n)) hcz t (z0 :: tl0) (openX T u ++ openX T (some s).toList) [] hall
      simp only [List.append_assoc, List.cons_append, List.nil_append] at this ⊢
      exact this
   ·split
    ·have ih := nfd_cmp hF t (u ++ s :: tl) (some c) [] ht' (fun z hz => by cases hz) (fun s _ z hz => by cases hz)
     rw [← List.append_assoc, ih]
     have e : openX T (some c).toList = [c] := openX_shut hF [c] (fun z hz => by rw [List.mem_singleton.1 hz]; exact hc)
     have e2 : openX T (u ++ s :: tl) = openX T u ++ (openX T (some s).toList ++ tl) := by
      rw [openX_app, show s :: tl = [s] ++ tl from rfl, openX_app, openX_shut hF tl htl]
      rfl
     rw [e, e2]
     simp
    ·rename_i hcz
     have ih := nfd_cmp hF t u (some s) (tl ++ [c]) ht' (fun z hz => by
      rcases List.mem_append.1 hz with hz | hz
      ·exact htl z hz
      ·rw [List.mem_singleton.1 hz]; exact hc) (fun _ _ z hz => by
      rcases List.mem_append.1 hz with hz | hz
      ·exact hs' z hz
      ·rw [List.mem_singleton.1 hz]; exact hcz)
     rw [ih]
     simp
theorem nfd_shut {T : List Rec} (hF : Fine T) (x : List Int) : ∀ z ∈ nfdF T x, openF T z = [] := nfd_all hF x
theorem nfd_nfd {T : List Rec} (hF : Fine T) (x : List Int) : nfdF T (nfdF T x) = nfdF T x := nfd_twice hF x
theorem nfd_nfc {T : List Rec} (hF : Fine T) (x : List Int) : nfdF T (nfcF T x) = nfdF T x := by
 have h := nfd_cmp hF (nfdF T x) [] none [] (nfd_shut hF x) (fun z hz => by cases hz) (fun s h => by cases h)
 have e : openX T (Option.toList none ++ ([] ++ nfdF T x)) = nfdF T x := openX_shut hF _ (nfd_shut hF x)
 rw [List.nil_append] at h
 refine h.trans ?_
 show sortF T (nfdF T x) = nfdF T x
 exact sortF_twice T _
theorem nfc_nfc {T : List Rec} (hF : Fine T) (x : List Int) : nfcF T (nfcF T x) = nfcF T x := by
 show composeF T (nfdF T (nfcF T x)) = _
 rw [nfd_nfc hF]
 rfl
theorem nfc_nfd {T : List Rec} (hF : Fine T) (x : List Int) : nfcF T (nfdF T x) = nfcF T x := by
 show composeF T (nfdF T (nfdF T x)) = _
 rw [nfd_nfd hF]
 rfl
theorem nfc_alike {T : List Rec} (hF : Fine T) (x y : List Int) : (nfdF T x == nfdF T y) = (nfcF T x == nfcF T y) := by
 rw [Bool.eq_iff_iff, beq_iff_eq, beq_iff_eq]
 constructor
 ·intro h
  unfold nfcF
  rw [h]
 ·intro h
  rw [← nfd_nfc hF x, ← nfd_nfc hF y, h]
def againF (T : List Rec) (c : Int) : Bool := match openF T c with
 | [a, b] => (compF T a b).2 && decide ((compF T a b).1 = c)
 | _ => false
def badF (T : List Rec) (c : Int) : Bool := !(openF T c == []) && !againF T c
theorem bad_comp {T : List Rec} (hF : Fine T) {a b p : Int} (h : compF T a b = (p, true)) : badF T p = false := by
 have : againF T p = true := by
  unfold againF
  rw [(comp_yes hF h).1]
  simp [h]
 unfold badF
 rw [this]
 simp
theorem cmp_bad {T : List Rec} (hF : Fine T) : ∀ (t : List Int) (st : Option Int) (tl : List Int), (∀ z ∈ t, badF T z = false) → (∀ z ∈ tl, badF T z = false) → (∀ s, st = some s → badF T s = false) → ∀ z ∈ cmpF T t st tl, badF T z = false
 | [], st, tl, _, htl, hs => by
   intro z hz
   rw [cmpF] at hz
   rcases List.mem_append.1 hz with hz | hz
   ·exact hs z (by simpa using hz)
   ·exact htl z hz
 | c :: t, none, tl, ht, htl, hs => by
   intro z hz
   have hc := ht c (List.mem_cons_self ..)
   have ht' : ∀ z ∈ t, badF T z = false := fun z hz => ht z (List.mem_cons_of_mem _ hz)
   rw [cmpF] at hz
   split at hz
   ·rcases List.mem_append.1 hz with hz | hz
    ·exact htl z hz
    ·exact cmp_bad hF t (some c) [] ht' (fun z hz => by cases hz) (fun s h => by cases h; exact hc) z hz
   ·exact cmp_bad hF t none (tl ++ [c]) ht' (fun z hz => by
     rcases List.mem_append.1 hz with hz | hz
     ·exact htl z hz
     ·rw [List.mem_singleton.1 hz]; exact hc) (fun s h => by cases h) z hz
 | c :: t, some s, tl, ht, htl, hs => by
   intro z hz
   have hc := ht c (List.mem_cons_self ..)
   have ht' : ∀ z ∈ t, badF T z = false := fun z hz => ht z (List.mem_cons_of_mem _ hz)
   rw [cmpF] at hz
   split at hz
   ·rename_i h
    exact cmp_bad hF t _ tl ht' htl (fun s' h' => by cases h'; exact bad_comp hF (comp_eta h.2)) z hz
   ·split at hz
    ·rcases List.mem_append.1 hz with hz | hz
     ·rcases List.mem_cons.1 hz with rfl | hz
      ·exact hs _ rfl
      ·exact htl z hz
     ·exact cmp_bad hF t (some c) [] ht' (fun z hz => by cases hz) (fun s h => by cases h; exact hc) z hz
    ·exact cmp_bad hF t (some s) (tl ++ [c]) ht' (fun z hz => by
      rcases List.mem_append.1 hz with hz | hz
      ·exact htl z hz
      ·rw [List.mem_singleton.1 hz]; exact hc) hs z hz
theorem shut_bad {T : List Rec} {c : Int} (h : openF T c = []) : badF T c = false := by unfold badF; rw [h]; rfl
theorem nfc_bad {T : List Rec} (hF : Fine T) (x : List Int) : ∀ z ∈ nfcF T x, badF T z = false :=
 cmp_bad hF _ none [] (fun z hz => shut_bad (nfd_shut hF x z hz)) (fun z hz => by cases hz) (fun s h => by cases h)
theorem cmp_head {T : List Rec} (hF : Fine T) : ∀ (t : List Int) (s : Int) (tl : List Int), classF T s = 0 → ∃ s' r, cmpF T t (some s) tl = s' :: r ∧ classF T s' = 0
 | [], s, tl, h => ⟨s, tl, rfl, h⟩
 | c :: t, s, tl, h => by
   rw [cmpF]
   split
   ·rename_i h1
    exact cmp_head hF t _ tl (comp_yes hF (comp_eta h1.2)).2.2.1
   ·split
    ·exact ⟨s, _, rfl, h⟩
    ·exact cmp_head hF t s _ h
theorem sortedG_app (cl : Int → Int) (u : List Int) (hu : u = [] ∨ ∃ z t, u = z :: t ∧ cl z = 0 ∧ sortedG cl 0 t = true) : ∀ (l : List Int) (a : Int), l.Pairwise (fun a b => cl a ≤ cl b) → (∀ b ∈ l, a ≤ cl b) → sortedG cl a (l ++ u) = true
 | [], a, _, _ => by
   rcases hu with rfl | ⟨z, t, rfl, hz, ht⟩
   ·rfl
   ·show sortedG cl a (z :: t) = true
    rw [sortedG, if_neg (fun h => h.1 hz), hz]
    exact ht
 | b :: l, a, hs, ha => by
   rw [List.pairwise_cons] at hs
   have hab := ha b (List.mem_cons_self ..)
   rw [List.cons_append, sortedG, if_neg (fun h => by have := h.2; omega)]
   exact sortedG_app cl u hu l _ hs.2 hs.1
theorem cmp_sorted {T : List Rec} (hF : Fine T) : ∀ (t : List Int) (st : Option Int) (tl : List Int) (m : Int), sortedG (numF T 2 (·.n)) m t = true → tl.Pairwise (fun a b => classF T a ≤ classF T b) → (∀ z ∈ tl, classF T z ≤ m ∧ classF T z ≠ 0) → (∀ s, st = some s → classF T s = 0) →
 sortedG (numF T 2 (·.n)) 0 (cmpF T t st tl) = true
 | [], st, tl, m, _, h1, h2, h3 => by
   have h := sortedG_app (numF T 2 (·.n)) [] (Or.inl rfl) tl 0 h1 (fun b _ => hp_of hF.toGood b)
   rw [List.append_nil] at h
   rw [cmpF]
   cases st with
   | none => exact h
   | some s =>
     have hs : numF T 2 (·.n) s = 0 := h3 s rfl
     show sortedG _ 0 (s :: tl) = true
     rw [sortedG, if_neg (fun h => h.1 hs), hs]
     exact h
 | c :: t, none, tl, m, hm, h1, h2, h3 => by
   rw [sortedG] at hm
   split at hm
   ·cases hm
   ·rename_i hn
    rw [cmpF]
    split
    ·rename_i hc
     have hc' : numF T 2 (·.n) c = 0 := hc
     rw [hc'] at hm
     obtain ⟨s', r, e, hs'⟩ := cmp_head hF t c [] hc
     have ih := cmp_sorted hF t (some c) [] 0 hm List.Pairwise.nil (fun z hz => by cases hz) (fun s h => by cases h; exact hc)
     refine sortedG_app _ _ (Or.inr ⟨s', r, e, hs', ?_⟩) tl 0 h1 (fun b _ => hp_of hF.toGood b)
     rw [e, sortedG] at ih
     have hs2 : numF T 2 (·.n) s' = 0 := hs'
     rw [if_neg (fun h => h.1 hs2), hs2] at ih
     exact ih
    ·rename_i hc
     have hc' : numF T 2 (·.n) c ≠ 0 := hc
     have hmc : m ≤ classF T c := Int.not_lt.1 (fun h => hn ⟨hc', h⟩)
     refine cmp_sorted hF t none (tl ++ [c]) _ hm ?_ ?_ (fun s h => by cases h)
     ·rw [List.pairwise_append]
      refine ⟨h1, by simp, fun a ha b hb => ?_⟩
      rw [List.mem_singleton.1 hb]
      have := (h2 a ha).1
      omega
     ·intro z hz
      rcases List.mem_append.1 hz with hz | hz
      ·have h5 := h2 z hz
       exact ⟨Int.le_trans h5.1 hmc, h5.2⟩
      ·rw [List.mem_singleton.1 hz]
       exact ⟨Int.le_refl _, hc⟩
 | c :: t, some s, tl, m, hm, h1, h2, h3 => by
   have hs0 := h3 s rfl
   rw [sortedG] at hm
   split at hm
   ·cases hm
   ·rename_i hn
    rw [cmpF]
    split
    ·rename_i h
     refine cmp_sorted hF t _ tl _ hm h1 (fun z hz => ⟨?_, (h2 z hz).2⟩) (fun s' h' => by cases h'; exact (comp_yes hF (comp_eta h.2)).2.2.1)
     have : classF T z < classF T c := by simpa using List.all_eq_true.1 h.1 z hz
     exact Int.le_of_lt this
    ·split
     ·rename_i hc
      have hc' : numF T 2 (·.n) c = 0 := hc
      rw [hc'] at hm
      obtain ⟨s', r, e, hs'⟩ := cmp_head hF t c [] hc
      have ih := cmp_sorted hF t (some c) [] 0 hm List.Pairwise.nil (fun z hz => by cases hz) (fun s h => by cases h; exact hc)
      have hs00 : numF T 2 (·.n) s = 0 := hs0
      rw [List.cons_append, sortedG, if_neg (fun h => h.1 hs00), hs00]
      refine sortedG_app _ _ (Or.inr ⟨s', r, e, hs', ?_⟩) tl 0 h1 (fun b _ => hp_of hF.toGood b)
      rw [e, sortedG] at ih
      have hs2 : numF T 2 (·.n) s' = 0 := hs'
      rw [if_neg (fun h => h.1 hs2), hs2] at ih
      exact ih
     ·rename_i hc
      have hc' : numF T 2 (·.n) c ≠ 0 := hc
      have hmc : m ≤ classF T c := Int.not_lt.1 (fun h => hn ⟨hc', h⟩)
      refine cmp_sorted hF t (some s) (tl ++ [c]) _ hm ?_ ?_ h3
      ·rw [List.pairwise_append]
       refine ⟨h1, by simp, fun a ha b hb => ?_⟩
       rw [List.mem_singleton.1 hb]
       have := (h2 a ha).1
       omega
      ·intro z hz
       rcases List.mem_append.1 hz with hz | hz
       ·have h5 := h2 z hz
        exact ⟨Int.le_trans h5.1 hmc, h5.2⟩
       ·rw [List.mem_singleton.1 hz]
        exact ⟨Int.le_refl _, hc⟩
theorem nfd_sorted {T : List Rec} (hF : Fine T) (x : List Int) : sortedG (numF T 2 (·.n)) 0 (nfdF T x) = true := runF_sortedG _ (hp_of hF.toGood) _ [] (fun m hm => by cases hm)
theorem nfc_sorted {T : List Rec} (hF : Fine T) (x : List Int) : sortedG (numF T 2 (·.n)) 0 (nfcF T x) = true :=
 cmp_sorted hF _ none [] 0 (nfd_sorted hF x) List.Pairwise.nil (fun z hz => by cases hz) (fun s h => by cases h)
theorem cmp_len (T : List Rec) : ∀ (t : List Int) (st : Option Int) (tl : List Int), (cmpF T t st tl).length ≤ st.toList.length + tl.length + t.length ∧ st.toList.length + tl.length ≤ (cmpF T t st tl).length
 | [], st, tl => by rw [cmpF, List.length_append]; simp
 | c :: t, none, tl => by
   rw [cmpF]
   split
   ·have := cmp_len T t (some c) []
    simp only [List.length_append, Option.toList, List.length_cons, List.length_nil] at *
    omega
   ·have := cmp_len T t none (tl ++ [c])
    simp only [List.length_append, Option.toList, List.length_cons, List.length_nil] at *
    omega
 | c :: t, some s, tl => by
   rw [cmpF]
   split
   ·have := cmp_len T t (some (compF T s c).1) tl
    simp only [List.length_append, Option.toList, List.length_cons, List.length_nil] at *
    omega
   ·split
    ·have := cmp_len T t (some c) []
     simp only [List.length_append, Option.toList, List.length_cons, List.length_nil] at *
     omega
    ·have := cmp_len T t (some s) (tl ++ [c])
     simp only [List.length_append, Option.toList, List.length_cons, List.length_nil] at *
     omega
theorem cmp_len0 (T : List Rec) (t : List Int) (h : t ≠ []) (tl : List Int) : 0 < (cmpF T t none tl).length := by
 cases t with
 | nil => exact absurd rfl h
 | cons c t =>
   rw [cmpF]
   split
   ·have := cmp_len T t (some c) []
    simp only [List.length_append, Option.toList, List.length_cons, List.length_nil] at *
    omega
   ·have := cmp_len T t none (tl ++ [c])
    simp only [List.length_append, Option.toList, List.length_cons, List.length_nil] at *
    omega
theorem cmp_anew {T : List Rec} (hF : Fine T) {s0 : Int} (h0 : classF T s0 = 0) (hs : secondF T s0 = false) (v : List Int) : ∀ (u : List Int) (st : Option Int) (tl : List Int), cmpF T (u ++ s0 :: v) st tl = cmpF T u st tl ++ cmpF T v (some s0) []
 | [], none, tl => by simp [cmpF, h0]
 | [], some s, tl => by
   have hn : (compF T s s0).2 = false := by
    cases h : (compF T s s0).2 with
    | false => rfl
    | true =>
      have := (comp_yes hF (comp_eta h)).2.1
      rw [hs] at this
      cases this
   simp [cmpF, h0, hn]
 | c :: u, none, tl => by
   rw [List.cons_append, cmpF, cmpF, cmp_anew hF h0 hs v u, cmp_anew hF h0 hs v u]
   split
   ·rw [List.append_assoc]
   ·rfl
 | c :: u, some s, tl => by
   rw [List.cons_append, cmpF, cmpF, cmp_anew hF h0 hs v u, cmp_anew hF h0 hs v u, cmp_anew hF h0 hs v u]
   split
   ·rfl
   ·split
    ·rw [List.append_assoc]
    ·rfl
def safeF (T : List Rec) (c : Int) : Bool := decide (classF T c = 0) && !badF T c && !secondF T (rd (fullL T c) 0)
end Go.Proofs.YtnohcnneflogjaaGreat.M.Nm
