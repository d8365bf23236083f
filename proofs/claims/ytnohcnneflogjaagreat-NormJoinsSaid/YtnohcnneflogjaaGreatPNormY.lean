/- Composition, plain: what a quick look finds in order is its own NFC; no two neighbours compose. -/
import Derived.Test.YtnohcnneflogjaaGreatPNormP
set_option maxRecDepth 100000
set_option linter.unusedVariables false
set_option linter.unusedSimpArgs false
namespace Go.Proofs.YtnohcnneflogjaaGreat.M.Nm
open St
theorem pair_comp {T : List Rec} (hF : Fine T) {x : Rec} (hx : x ∈ T) (hk : x.kind = 7) : compF T (rd x.to 0) (rd x.to 1) = (x.lo, true) := by
 have hf : fam x.kind = 3 := by rw [hk]; rfl
 have hh := (hF.upper hx (.inr hf)).2
 unfold hangulB at hh
 rw [dTz hk] at hh
 simp only [Bool.or_eq_false_iff, Bool.true_and] at hh
 have h1 := hh.2.1
 have h2 := hh.2.2
 unfold compF
 rw [if_neg (by rw [h1]; decide), if_neg (by rw [h2]; decide)]
 obtain ⟨i, hi⟩ := List.mem_iff_getElem?.1 hx
 have hn := hF.pair_new hi hk
 have hil := (List.getElem?_eq_some_iff.1 hi).1
 have e : T = T.take i ++ x :: T.drop (i + 1) := by
  have := (List.getElem?_eq_some_iff.1 hi).2
  rw [← this, ← List.drop_eq_getElem_cons hil, List.take_append_drop]
 have e2 : T.find? (pairAt (rd x.to 0) (rd x.to 1)) = some x := by
  rw [e, List.find?_append, hn, List.find?_cons]
  have : pairAt (rd x.to 0) (rd x.to 1) x = true := by unfold pairAt; simp [hk]
  rw [this]
  rfl
 rw [e2]
theorem syl_comp {T : List Rec} {c : Int} (h : syl c = true) : compF T (sylA c) (sylB c) = (c, true) := by
 have h1 := syl_iff h
 unfold compF sylA sylB
 by_cases hr : (c - 44032) % 28 = 0
 ·rw [if_pos hr, if_pos hr]
  have a : jl (4352 + (c - 44032) / 588) = true := by simp [jl]; omega
  have b : jv (4449 + (c - 44032) / 28 % 21) = true := by simp [jv]; omega
  rw [if_pos (by rw [a, b]; rfl)]
  congr 1
  omega
 ·rw [if_neg hr, if_neg hr]
  have a : jl (c - (c - 44032) % 28) = false := by simp [jl]; omega
  have b : syl (c - (c - 44032) % 28) = true := by simp [syl]; omega
  have d : jt (4519 + (c - 44032) % 28) = true := by simp [jt]; omega
  rw [if_neg (by rw [a]; simp), if_pos (by rw [b, d]; simp; omega)]
  congr 1
  omega
theorem again_first {T : List Rec} (hF : Fine T) {c a b : Int} (h : compF T a b = (c, true)) : openF T a = [] ∨ ∃ a' b', compF T a' b' = (a, true) := by
 unfold compF at h
 split at h
 ·rename_i hc
  simp only [Bool.and_eq_true] at hc
  exact .inl (open_jamo hF (.inl hc.1))
 ·split at h
  ·rename_i hc
   simp only [Bool.and_eq_true] at hc
   exact .inr ⟨_, _, syl_comp hc.1.1⟩
  ·split at h
   ·rename_i x hx
    have hm := List.mem_of_find?_eq_some hx
    obtain ⟨h7, h8, h9⟩ := pairAt_iff (List.find?_some hx)
    have hp := hF.pair_right hm h7
    unfold pairsB at hp
    simp only [Bool.and_eq_true, Bool.or_eq_true, decide_eq_true_eq] at hp
    rw [h8] at hp
    rcases hp.1.1.2 with h | h
    ·exact .inl h
    ·right
     unfold primB at h
     rw [Bool.or_eq_true] at h
     rcases h with h | h
     ·exact ⟨_, _, syl_comp h⟩
     ·cases hf : findR T 3 a with
      | none => rw [hf] at h; cases h
      | some r =>
        rw [hf] at h
        simp only [Bool.and_eq_true, decide_eq_true_eq] at h
        have hr := (findR_some hf).1
        have hlo := (dec_lo hF.toGood hf).1
        exact ⟨_, _, by rw [← hlo]; exact pair_comp hF hr h.1⟩
   ·injection h with _ h
    cases h
def chainF (T : List Rec) (s : Int) : List Int → Option Int
 | [] => some s
 | b :: B => if (compF T s b).2 = true then chainF T (compF T s b).1 B else none
theorem chain_snoc {T : List Rec} : ∀ (B : List Int) (s a b : Int), chainF T s B = some a → (compF T a b).2 = true → chainF T s (B ++ [b]) = some (compF T a b).1
 | [], s, a, b, h, hb => by
   injection h with h
   subst h
   show chainF T s [b] = _
   rw [chainF, if_pos hb]
   rfl
 | d :: B, s, a, b, h, hb => by
   rw [chainF] at h
   split at h
   ·rename_i hd
    rw [List.cons_append, chainF, if_pos hd]
    exact chain_snoc B _ a b h hb
   ·cases h
theorem chain_app {T : List Rec} : ∀ (P B : List Int) (s : Int), chainF T s (P ++ B) = (chainF T s P).bind (fun a => chainF T a B)
 | [], B, s => rfl
 | b :: P, B, s => by
   rw [List.cons_append, chainF, chainF]
   split
   ·exact chain_app P B _
   ·rfl
theorem full_chain {T : List Rec} (hF : Fine T) : ∀ (n : Nat) (c : Int), (fullL T c).length ≤ n → badF T c = false → ∃ s B, fullL T c = s :: B ∧ chainF T s B = some c := by
 intro n
 induction n with
 | zero =>
   intro c hl _
   exact absurd (List.length_eq_zero_iff.1 (by omega)) (hF.full_shut c).2
 | succ n ih =>
   intro c hl hb
   by_cases ho : openF T c = []
   ·exact ⟨c, [], full_one hF ho, rfl⟩
   ·have hg : againF T c = true := by
     unfold badF at hb
     have : (openF T c == []) = false := beq_eq_false_iff_ne.2 ho
     rw [this] at hb
     simpa using hb
    unfold againF at hg
    split at hg
    ·rename_i a b hab
     simp only [Bool.and_eq_true, decide_eq_true_eq] at hg
     have hcp : compF T a b = (c, true) := by rw [comp_eta hg.1, hg.2]
     have hfl := full_comp hF hcp
     have hla : (fullL T a).length ≤ n := by rw [hfl, List.length_append, List.length_singleton] at hl; omega
     have hba : badF T a = false := by
      rcases again_first hF hcp with h | ⟨a', b', h⟩
      ·exact shut_bad h
      ·exact bad_comp hF h
     obtain ⟨s, B, e1, e2⟩ := ih a hla hba
     refine ⟨s, B ++ [b], by rw [hfl, e1]; rfl, ?_⟩
     rw [chain_snoc B s a b e2 hg.1, hg.2]
    ·cases hg
theorem chain_class {T : List Rec} (hF : Fine T) {s c : Int} {B : List Int} (h : chainF T s B = some c) (hc : classF T c = 0) : classF T s = 0 := by
 cases B with
 | nil => injection h with h; rw [h]; exact hc
 | cons b B =>
   rw [chainF] at h
   split at h
   ·rename_i hd
    exact (comp_yes hF (comp_eta hd)).2.2.2
   ·cases h
theorem getD_elem (l : List Int) (i : Nat) (h : i < l.length) : l.getD i 0 = l[i] := by simp [List.getD, List.getElem?_eq_getElem h]
theorem falls_sorted (T : List Rec) (l : List Int) (h : fallsB T l = false) : ∀ (n i : Nat) (a : Int), l.length - i = n → (i = 0 → a = 0) → (∀ j, i = j + 1 → a = classF T (l.getD j 0)) → (∀ z, 0 ≤ classF T z) → sortedG (numF T 2 (·.n)) a (l.drop i) = true := by
 intro n
 induction n with
 | zero =>
   intro i a hn _ _ _
   rw [List.drop_eq_nil_of_le (by omega)]
   rfl
 | succ n ih =>
   intro i a hn h0 h1 hp
   have hi : i < l.length := by omega
   rw [List.drop_eq_getElem_cons hi, sortedG, if_neg]
   ·refine ih (i + 1) _ (by omega) (fun h => by omega) (fun j hj => ?_) hp
    have : j = i := by omega
    subst this
    rw [getD_elem _ _ hi]
    rfl
   ·rintro ⟨hz, hgt⟩
    cases i with
    | zero =>
      rw [h0 rfl] at hgt
      have := hp l[0]
      have hgt' : 0 > classF T l[0] := hgt
      omega
    | succ j =>
      have ha := h1 j rfl
      unfold fallsB at h
      rw [List.any_eq_false] at h
      have := h (j + 1) (by rw [List.mem_range'_1]; omega)
      rw [getD_elem _ _ hi, show j + 1 - 1 = j by omega] at this
      have hgt' : a > classF T l[j + 1] := hgt
      have hz' : classF T l[j + 1] ≠ 0 := hz
      rw [ha] at hgt'
      exact this (by rw [dTz hz', dTz hgt']; rfl)
theorem full_sorted {T : List Rec} (hF : Fine T) (c : Int) : sortedG (numF T 2 (·.n)) 0 (fullL T c) = true := by
 have hp : ∀ z, 0 ≤ classF T z := hp_of hF.toGood
 cases hs : syl c with
 | true =>
   have e : fullL T c = sylL c := by
    have := full_syl hF hs
    rw [hF.full c] at this
    exact Except.ok.inj this
   have h1 := syl_iff hs
   have z : ∀ d, jl d = true ∨ jv d = true ∨ jt d = true → numF T 2 (·.n) d = 0 := fun d hd => by
    unfold numF
    rw [hF.no_hangul (.inl rfl) (.inr hd)]
   have key : ∀ l : List Int, (∀ d ∈ l, numF T 2 (·.n) d = 0) → sortedG (numF T 2 (·.n)) 0 l = true := by
    intro l
    induction l with
    | nil => intro _; rfl
    | cons d l ih =>
      intro h
      have hd := h d (List.mem_cons_self ..)
      rw [sortedG, if_neg (fun h => h.1 hd), hd]
      exact ih (fun x hx => h x (List.mem_cons_of_mem _ hx))
   rw [e]
   refine key _ (fun d hd => z d ?_)
   unfold sylL at hd
   rcases List.mem_append.1 hd with hd | hd
   ·rcases List.mem_cons.1 hd with rfl | hd
    ·left; simp [jl]; omega
    ·rw [List.mem_singleton.1 hd]
     right; left; simp [jv]; omega
   ·split at hd
    ·rw [List.mem_singleton.1 hd]
     right; right; simp [jt]; omega
    ·cases hd
 | false =>
   cases hf : findR T 3 c with
   | none =>
     have ho : openF T c = [] := by unfold openF; rw [hs, hf]; rfl
     rw [full_one hF ho, sortedG, if_neg (fun h => by have := h.2; have := hp c; have e : classF T c = numF T 2 (·.n) c := rfl; omega)]
     rfl
   | some x =>
     obtain ⟨h1, h2⟩ := findR_some hf
     have hlo := (dec_lo hF.toGood hf).1
     have hfm := (hit_span h2).1
     obtain ⟨i, hi⟩ := List.mem_iff_getElem?.1 h1
     have hw := hF.wrong0 hi
     obtain ⟨h3, h4⟩ := hF.upper h1 (.inr hfm)
     have hl := hF.full x.lo
     rw [hlo] at hl
     have hfl : fallsB T (fullL T c) = false := by
      cases hfl : fallsB T (fullL T c) with
      | false => rfl
      | true => rw [wrongE_falls hfm (by omega) h4 (by rw [hlo]; exact hl) hfl] at hw; exact absurd hw (by decide)
     have := falls_sorted T _ hfl _ 0 0 rfl (fun _ => rfl) (fun j hj => by omega) hp
     simpa using this
section
variable {T : List Rec}
theorem not_second (hF : Fine T) {s d : Int} (h : secondF T d = false) : (compF T s d).2 = false := by
 cases hc : (compF T s d).2 with
 | false => rfl
 | true =>
   have := (comp_yes hF (comp_eta hc)).2.1
   rw [h] at this
   cases this
theorem cmp_pass (hF : Fine T) (R : List Int) : ∀ (D : List Int) (s : Int) (tl : List Int), (∀ d ∈ D, classF T d ≠ 0 ∧ secondF T d = false) → cmpF T (D ++ R) (some s) tl = cmpF T R (some s) (tl ++ D)
 | [], s, tl, _ => by simp
 | d :: D, s, tl, h => by
   have hd := h d (List.mem_cons_self ..)
   rw [List.cons_append, cmpF, if_neg (fun h => by rw [not_second hF hd.2] at h; cases h.2), if_neg hd.1, cmp_pass hF R D s _ (fun x hx => h x (List.mem_cons_of_mem _ hx))]
   simp
theorem insM_behind (m : Int × Int) : ∀ (D X : List (Int × Int)), (∀ d ∈ D, d.2 < m.2) → insM m (D ++ X) = D ++ insM m X
 | [], X, _ => rfl
 | d :: D, X, h => by
   have hd := h d (List.mem_cons_self ..)
   rw [List.cons_append, insM, if_neg (by omega), insM_behind m D X (fun x hx => h x (List.mem_cons_of_mem _ hx))]
   rfl
theorem fold_behind : ∀ (P D X : List (Int × Int)), (∀ m ∈ P, ∀ d ∈ D, d.2 < m.2) → P.foldr insM (D ++ X) = D ++ P.foldr insM X
 | [], D, X, _ => rfl
 | m :: P, D, X, h => by
   rw [List.foldr_cons, fold_behind P D X (fun x hx => h x (List.mem_cons_of_mem _ hx)), insM_behind m D _ (h m (List.mem_cons_self ..)), List.foldr_cons]
theorem fold_mem : ∀ (P X : List (Int × Int)) (m : Int × Int), m ∈ P.foldr insM X → m ∈ P ∨ m ∈ X
 | [], X, m, h => .inr h
 | a :: P, X, m, h => by
   rw [List.foldr_cons] at h
   rcases List.mem_cons.1 ((insM_perm a _).mem_iff.1 h) with h | h
   ·exact .inl (h ▸ List.mem_cons_self ..)
   ·rcases fold_mem P X m h with h | h
    ·exact .inl (List.mem_cons_of_mem _ h)
    ·exact .inr h
theorem split_at (k : Int) : ∀ (D : List (Int × Int)), Srt D → ∃ D1 D2, D = D1 ++ D2 ∧ (∀ d ∈ D1, d.2 < k) ∧ (∀ d ∈ D2, k ≤ d.2)
 | [], _ => ⟨[], [], rfl, fun d h => (by cases h), fun d h => (by cases h)⟩
 | d :: D, h => by
   rw [Srt, List.pairwise_cons] at h
   by_cases hd : d.2 < k
   ·obtain ⟨D1, D2, e, h1, h2⟩ := split_at k D h.2
    refine ⟨d :: D1, D2, by rw [e]; rfl, fun x hx => ?_, h2⟩
    rcases List.mem_cons.1 hx with rfl | hx
    ·exact hd
    ·exact h1 x hx
   ·refine ⟨[], d :: D, rfl, fun d h => (by cases h), fun x hx => ?_⟩
    rcases List.mem_cons.1 hx with rfl | hx
    ·omega
    ·have := h.1 x hx
     omega
theorem cmp_merge (hF : Fine T) (R : List Int) : ∀ (P D : List (Int × Int)) (s c : Int) (tl : List Int), Marks (numF T 2 (·.n)) P → Marks (numF T 2 (·.n)) D → Srt P → Srt D → (∀ d ∈ D, secondF T d.1 = false) → chainF T s (P.map (·.1)) = some c → (∀ m ∈ P, ∀ z ∈ tl, classF T z < m.2) →
 cmpF T ((P.foldr insM D).map (·.1) ++ R) (some s) tl = cmpF T R (some c) (tl ++ D.map (·.1))
 | [], D, s, c, tl, _, hmd, _, _, hd, hc, _ => by
   injection hc with hc
   subst hc
   refine cmp_pass hF R _ s tl (fun d hd' => ?_)
   obtain ⟨m, hm, rfl⟩ := List.mem_map.1 hd'
   refine ⟨?_, hd m hm⟩
   have := hmd m hm
   show numF T 2 (·.n) m.1 ≠ 0
   rw [this.1]
   exact this.2
 | b :: P, D, s, c, tl, hmp, hmd, hsp, hsd, hd, hc, htl => by
   rw [Srt, List.pairwise_cons] at hsp
   have hb := hmp b (List.mem_cons_self ..)
   obtain ⟨D1, D2, e, h1, h2⟩ := split_at b.2 D hsd
   subst e
   have hPD : ∀ m ∈ P, ∀ d ∈ D1, d.2 < m.2 := fun m hm d hd => by have := hsp.1 m hm; have := h1 d hd; omega
   rw [List.foldr_cons, fold_behind P D1 D2 hPD, insM_behind b D1 _ h1, insM_head b _ (fun m hm => by
    rcases fold_mem P D2 m hm with hm | hm
    ·exact hsp.1 m hm
    ·exact h2 m hm)]
   rw [List.map_append, List.map_cons, List.append_assoc, List.cons_append]
   rw [cmp_pass hF _ (D1.map (·.1)) s tl (fun d hd' => by
    obtain ⟨m, hm, rfl⟩ := List.mem_map.1 hd'
    refine ⟨?_, hd m (List.mem_append_left _ hm)⟩
    have := hmd m (List.mem_append_left _ hm)
    show numF T 2 (·.n) m.1 ≠ 0
    rw [this.1]
    exact this.2)]
   rw [List.map_cons, chainF] at hc
   split at hc
   ·rename_i hcp
    have hall : (tl ++ D1.map (·.1)).all (fun z => decide (classF T z < classF T b.1)) = true := by
     rw [List.all_eq_true]
     intro z hz
     have hcb : classF T b.1 = b.2 := hb.1
     rw [hcb, decide_eq_true_eq]
     rcases List.mem_append.1 hz with hz | hz
     ·exact htl b (List.mem_cons_self ..) z hz
     ·obtain ⟨m, hm, rfl⟩ := List.mem_map.1 hz
      have hcm : classF T m.1 = m.2 := (hmd m (List.mem_append_left _ hm)).1
      rw [hcm]
      exact h1 m hm
    rw [cmpF, if_pos ⟨hall, hcp⟩]
    rw [cmp_merge hF R P D2 _ c _ (fun m hm => hmp m (List.mem_cons_of_mem _ hm)) (fun m hm => hmd m (List.mem_append_right _ hm)) hsp.2 (List.pairwise_append.1 hsd).2.1 (fun d hd' => hd d (List.mem_append_right _ hd')) hc (fun m hm z hz => by
     rcases List.mem_append.1 hz with hz | hz
     ·exact htl m (List.mem_cons_of_mem _ hm) z hz
     ·obtain ⟨d, hd', rfl⟩ := List.mem_map.1 hz
      have hcm : classF T d.1 = d.2 := (hmd d (List.mem_append_left _ hd')).1
      rw [hcm]
      exact hPD m hm d hd')]
    simp
   ·cases hc
theorem take_marks (cl : Int → Int) : ∀ (B : List Int) (a : Int), sortedG cl a B = true → ∃ (P : List (Int × Int)) (B' : List Int), B = P.map (·.1) ++ B' ∧ Marks cl P ∧ Srt P ∧ (∀ m ∈ P, a ≤ m.2) ∧ (B' = [] ∨ ∃ z t, B' = z :: t ∧ cl z = 0 ∧ sortedG cl 0 t = true) ∧ P.length + B'.length = B.length
 | [], a, _ => ⟨[], [], rfl, fun m h => (by cases h), List.Pairwise.nil, fun m h => (by cases h), .inl rfl, rfl⟩
 | c :: t, a, h => by
   rw [sortedG] at h
   split at h
   ·cases h
   ·rename_i hn
    by_cases hc : cl c = 0
    ·rw [hc] at h
     exact ⟨[], c :: t, rfl, fun m h => (by cases h), List.Pairwise.nil, fun m h => (by cases h), .inr ⟨c, t, rfl, hc, h⟩, by simp⟩
    ·have hac : a ≤ cl c := Int.not_lt.1 (fun h' => hn ⟨hc, h'⟩)
     obtain ⟨P, B', e, h1, h2, h3, h4, h5⟩ := take_marks cl t _ h
     refine ⟨(c, cl c) :: P, B', by rw [e]; rfl, ?_, ?_, ?_, h4, by simp only [List.length_cons]; omega⟩
     ·intro m hm
      rcases List.mem_cons.1 hm with rfl | hm
      ·exact ⟨rfl, hc⟩
      ·exact h1 m hm
     ·rw [Srt, List.pairwise_cons]
      exact ⟨fun m hm => h3 m hm, h2⟩
     ·intro m hm
      rcases List.mem_cons.1 hm with rfl | hm
      ·exact hac
      ·have := h3 m hm
       omega
theorem cmp_again (hF : Fine T) (D : List (Int × Int)) (R : List Int) (hmd : Marks (numF T 2 (·.n)) D) (hsd : Srt D) (hd : ∀ d ∈ D, secondF T d.1 = false) (hR : R = [] ∨ ∃ z t, R = z :: t ∧ numF T 2 (·.n) z = 0) : ∀ (n : Nat) (B : List Int) (s c : Int), B.length ≤ n → chainF T s B = some c → sortedG (numF T 2 (·.n)) 0 B = true →
 cmpF T (runF (numF T 2 (·.n)) (B ++ (D.map (·.1) ++ R)) []) (some s) [] = cmpF T (runF (numF T 2 (·.n)) R []) (some c) (D.map (·.1)) := by
 have tail : ∀ row, runF (numF T 2 (·.n)) R row = (ordM row).map (·.1) ++ runF (numF T 2 (·.n)) R [] := by
  intro row
  rcases hR with rfl | ⟨z, t, rfl, hz⟩
  ·simp [runF, ordM]
  ·rw [runF, if_pos hz, runF, if_pos hz]
   simp [ordM]
 intro n
 induction n with
 | zero =>
   intro B s c hl hc hs
   have : B = [] := List.length_eq_zero_iff.1 (by omega)
   subst this
   rw [List.nil_append, runF_marks _ _ _ _ hmd, List.nil_append, tail]
   have h := cmp_merge hF (runF (numF T 2 (·.n)) R []) [] D s c [] (fun m hm => by cases hm) hmd List.Pairwise.nil hsd hd hc (fun m hm => by cases hm)
   rw [ordM_id D hsd]
   exact h
 | succ n ih =>
   intro B s c hl hc hs
   obtain ⟨P, B', e, h1, h2, h3, h4, h5⟩ := take_marks _ B 0 hs
   subst e
   rw [chain_app] at hc
   cases hcp : chainF T s (P.map (·.1)) with
   | none => rw [hcp] at hc; cases hc
   | some s1 =>
     rw [hcp] at hc
     have hc' : chainF T s1 B' = some c := hc
     rcases h4 with rfl | ⟨z, t, rfl, hz, ht⟩
     ·injection hc' with hc'
      subst hc'
      rw [List.append_nil, runF_marks _ _ _ _ h1, List.nil_append, runF_marks _ _ _ _ hmd, tail, ordM_app, ordM_id D hsd]
      exact cmp_merge hF _ P D s _ [] h1 hmd h2 hsd hd hcp (fun m _ z hz => by cases hz)
     ·rw [List.append_assoc, runF_marks _ _ _ _ h1, List.nil_append, List.cons_append, runF, if_pos hz, ordM_id P h2]
      have h := cmp_merge hF (z :: runF (numF T 2 (·.n)) (t ++ (D.map (·.1) ++ R)) []) P [] s s1 [] h1 (fun m hm => by cases hm) h2 List.Pairwise.nil (fun d hd => by cases hd) hcp (fun m _ z hz => by cases hz)
      have e2 : P.foldr insM [] = P := by
       have := ordM_app P []
       rw [List.append_nil, ordM_id P h2] at this
       exact this.symm
      rw [e2] at h
      rw [h, chainF] at *
      split at hc'
      ·rename_i hd'
       rw [List.map_nil, List.append_nil, cmpF, if_pos ⟨rfl, hd'⟩]
       exact ih t _ c (by simp at h5 hl; omega) hc' ht
      ·cases hc'
def calmF (T : List Rec) (c : Int) : Bool := !badF T c && !secondF T (rd (fullL T c) 0)
theorem calm_mark (hF : Fine T) {c : Int} (h : calmF T c = true) (hc : classF T c ≠ 0) : openF T c = [] ∧ secondF T c = false := by
 unfold calmF at h
 simp only [Bool.and_eq_true, Bool.not_eq_true'] at h
 have ho : openF T c = [] := by
  by_cases ho : openF T c = []
  ·exact ho
  ·exfalso
   have hb := h.1
   unfold badF at hb
   rw [show (openF T c == []) = false from beq_eq_false_iff_ne.2 ho] at hb
   unfold againF at hb
   split at hb
   ·rename_i a b _
    simp only [Bool.not_false, Bool.true_and, Bool.not_eq_false', Bool.and_eq_true, decide_eq_true_eq] at hb
    have := (comp_yes hF (comp_eta hb.1)).2.2.1
    rw [hb.2] at this
    exact hc this
   ·simp at hb
 refine ⟨ho, ?_⟩
 have := h.2
 rw [full_one hF ho] at this
 exact this
theorem calm_start (hF : Fine T) {c : Int} (h : calmF T c = true) (hc : classF T c = 0) : ∃ s B, fullL T c = s :: B ∧ chainF T s B = some c ∧ classF T s = 0 ∧ secondF T s = false ∧ sortedG (numF T 2 (·.n)) 0 B = true := by
 unfold calmF at h
 simp only [Bool.and_eq_true, Bool.not_eq_true'] at h
 obtain ⟨s, B, e, hch⟩ := full_chain hF _ c (Nat.le_refl _) h.1
 have hs := chain_class hF hch hc
 have h2 := h.2
 rw [e] at h2
 have hso := full_sorted hF c
 have hs' : numF T 2 (·.n) s = 0 := hs
 rw [e, sortedG, if_neg (fun h => h.1 hs'), hs'] at hso
 exact ⟨s, B, e, hch, hs, h2, hso⟩
theorem marks_open (hF : Fine T) : ∀ (D : List (Int × Int)), Marks (numF T 2 (·.n)) D → (∀ m ∈ D, calmF T m.1 = true) → openX T (D.map (·.1)) = D.map (·.1) ∧ ∀ m ∈ D, secondF T m.1 = false := by
 intro D hm hc
 have key : ∀ m ∈ D, openF T m.1 = [] ∧ secondF T m.1 = false := fun m h => calm_mark hF (hc m h) (by
  have := hm m h
  show numF T 2 (·.n) m.1 ≠ 0
  rw [this.1]
  exact this.2)
 refine ⟨openX_shut hF _ (fun z hz => ?_), fun m h => (key m h).2⟩
 obtain ⟨m, h, rfl⟩ := List.mem_map.1 hz
 exact (key m h).1
theorem yes_block (hF : Fine T) : ∀ (n : Nat) (t : List Int) (s c : Int) (B : List Int), t.length ≤ n → chainF T s B = some c → sortedG (numF T 2 (·.n)) 0 B = true → (∀ z ∈ t, calmF T z = true) → sortedG (numF T 2 (·.n)) 0 t = true →
 cmpF T (runF (numF T 2 (·.n)) (B ++ openX T t) []) (some s) [] = c :: t := by
 intro n
 induction n with
 | zero =>
   intro t s c B hl hch hB _ _
   have : t = [] := List.length_eq_zero_iff.1 (by omega)
   subst this
   have h := cmp_again hF [] [] (fun m hm => by cases hm) List.Pairwise.nil (fun m hm => by cases hm) (.inl rfl) _ B s c (Nat.le_refl _) hch hB
   simpa [openX, runF, ordM, cmpF] using h
 | succ n ih =>
   intro t s c B hl hch hB hcalm hsort
   obtain ⟨D, t', e, hmd, hsd, _, h4, h5⟩ := take_marks _ t 0 hsort
   subst e
   obtain ⟨ho, hns⟩ := marks_open hF D hmd (fun m hm => hcalm m.1 (List.mem_append_left _ (List.mem_map.2 ⟨m, hm, rfl⟩)))
   rw [openX_app, ho]
   rcases h4 with rfl | ⟨z, t2, rfl, hz, ht2⟩
   ·have h := cmp_again hF D [] hmd hsd hns (.inl rfl) _ B s c (Nat.le_refl _) hch hB
    simpa [openX, runF, ordM, cmpF] using h
   ·obtain ⟨s2, B2, e2, hch2, hs2, hns2, hB2⟩ := calm_start hF (hcalm z (by simp)) hz
    have hop : openX T (z :: t2) = s2 :: (B2 ++ openX T t2) := by
     unfold openX
     rw [List.flatMap_cons, e2]
     rfl
    rw [hop]
    have hs2' : numF T 2 (·.n) s2 = 0 := hs2
    have h := cmp_again hF D (s2 :: (B2 ++ openX T t2)) hmd hsd hns (.inr ⟨_, _, rfl, hs2'⟩) _ B s c (Nat.le_refl _) hch hB
    rw [h, runF, if_pos hs2', show (ordM ([] : List (Int × Int))).map (·.1) = ([] : List Int) from rfl, List.nil_append]
    rw [cmpF, if_neg (fun h => by rw [not_second hF hns2] at h; cases h.2), if_pos hs2]
    rw [ih t2 s2 z B2 (by simp at h5 hl; omega) hch2 hB2 (fun y hy => hcalm y (by simp [hy])) ht2]
    rfl
theorem pass_none (R : List Int) : ∀ (D : List Int) (tl : List Int), (∀ d ∈ D, classF T d ≠ 0) → cmpF T (D ++ R) none tl = cmpF T R none (tl ++ D)
 | [], tl, _ => by simp
 | d :: D, tl, h => by
   rw [List.cons_append, cmpF, if_neg (h d (List.mem_cons_self ..)), pass_none R D _ (fun x hx => h x (List.mem_cons_of_mem _ hx))]
   simp
theorem nfc_calm (hF : Fine T) (x : List Int) (hc : ∀ z ∈ x, calmF T z = true) (hs : sortedG (numF T 2 (·.n)) 0 x = true) : nfcF T x = x := by
 obtain ⟨D, t', e, hmd, hsd, _, h4, h5⟩ := take_marks _ x 0 hs
 subst e
 obtain ⟨ho, hns⟩ := marks_open hF D hmd (fun m hm => hc m.1 (List.mem_append_left _ (List.mem_map.2 ⟨m, hm, rfl⟩)))
 have hD : ∀ d ∈ D.map (·.1), classF T d ≠ 0 := fun d hd => by
  obtain ⟨m, hm, rfl⟩ := List.mem_map.1 hd
  have := hmd m hm
  show numF T 2 (·.n) m.1 ≠ 0
  rw [this.1]
  exact this.2
 unfold nfcF nfdF composeF sortF
 rw [openX_app, ho]
 rcases h4 with rfl | ⟨z, t2, rfl, hz, ht2⟩
 ·rw [show openX T ([] : List Int) = [] from rfl, runF_marks _ _ _ _ hmd, List.nil_append, runF, ordM_id D hsd]
  have h := pass_none (T := T) [] (D.map (·.1)) [] hD
  rw [List.append_nil] at h
  rw [h, cmpF]
  simp
 ·obtain ⟨s2, B2, e2, hch2, hs2, hns2, hB2⟩ := calm_start hF (hc z (by simp)) hz
  have hop : openX T (z :: t2) = s2 :: (B2 ++ openX T t2) := by
   unfold openX
   rw [List.flatMap_cons, e2]
   rfl
  have hs2' : numF T 2 (·.n) s2 = 0 := hs2
  rw [hop, runF_marks _ _ _ _ hmd, List.nil_append, runF, if_pos hs2', ordM_id D hsd, pass_none _ _ _ hD, List.nil_append, cmpF, if_pos hs2]
  rw [yes_block hF _ t2 s2 z B2 (Nat.le_refl _) hch2 hB2 (fun y hy => hc y (by simp [hy])) ht2]
def noPair (T : List Rec) : List Int → Prop
 | [] => True
 | [_] => True
 | a :: b :: t => (classF T a = 0 → (compF T a b).2 = false) ∧ noPair T (b :: t)
theorem noPair_marks (R : List Int) (hR : noPair T R) : ∀ D : List Int, (∀ d ∈ D, classF T d ≠ 0) → noPair T (D ++ R)
 | [], _ => hR
 | [a], h => by
   cases R with
   | nil => exact trivial
   | cons b R => exact ⟨fun h0 => absurd h0 (h a (List.mem_cons_self ..)), hR⟩
 | a :: b :: D, h => ⟨fun h0 => absurd h0 (h a (List.mem_cons_self ..)), noPair_marks R hR (b :: D) (fun d hd => h d (List.mem_cons_of_mem _ hd))⟩
theorem comp_past (hF : Fine T) {s e p d : Int} (h : compF T s e = (p, true)) (hlt : classF T d < classF T e) (hd : classF T d ≠ 0) : (compF T p d).2 = false := by
 cases hc : (compF T p d).2 with
 | false => rfl
 | true =>
   exfalso
   have h1 := full_comp hF (comp_eta hc)
   rw [full_comp hF h] at h1
   have h2 := full_sorted hF (compF T p d).1
   rw [h1] at h2
   have key : ∀ (u : List Int) (a : Int), sortedG (numF T 2 (·.n)) a (u ++ [e] ++ [d]) = false := by
    intro u
    induction u with
    | nil =>
      intro a
      show sortedG _ a [e, d] = false
      rw [sortedG]
      split
      ·rfl
      ·rw [sortedG, if_pos ⟨hd, hlt⟩]
    | cons c u ih =>
      intro a
      rw [List.cons_append, List.cons_append, sortedG, ih]
      split <;> rfl
   rw [key] at h2
   cases h2
theorem cmp_head2 (hF : Fine T) : ∀ (t : List Int) (s : Int) (tl : List Int), ∃ s' r, cmpF T t (some s) tl = s' :: r ∧ (s' = s ∨ openF T s' ≠ [])
 | [], s, tl => ⟨s, tl, rfl, .inl rfl⟩
 | c :: t, s, tl => by
   rw [cmpF]
   split
   ·rename_i h1
    obtain ⟨s', r, e, h⟩ := cmp_head2 hF t (compF T s c).1 tl
    refine ⟨s', r, e, .inr ?_⟩
    rcases h with rfl | h
    ·rw [(comp_yes hF (comp_eta h1.2)).1]
     simp
    ·exact h
   ·split
    ·exact ⟨s, _, rfl, .inl rfl⟩
    ·exact cmp_head2 hF t s _
theorem cmp_noPair (hF : Fine T) : ∀ (t : List Int) (st : Option Int) (tl : List Int), (∀ z ∈ tl, classF T z ≠ 0) → (∀ s d r, st = some s → tl = d :: r → (compF T s d).2 = false) → noPair T (cmpF T t st tl)
 | [], none, tl, h1, _ => by
   rw [cmpF]
   have := noPair_marks (T := T) [] trivial tl h1
   rw [List.append_nil] at this
   exact this
 | [], some s, tl, h1, h2 => by
   rw [cmpF]
   show noPair T (s :: tl)
   cases tl with
   | nil => exact trivial
   | cons d r =>
     have := noPair_marks (T := T) [] trivial (d :: r) h1
     rw [List.append_nil] at this
     exact ⟨fun _ => h2 s d r rfl rfl, this⟩
 | c :: t, none, tl, h1, _ => by
   rw [cmpF]
   split
   ·exact noPair_marks _ (cmp_noPair hF t (some c) [] (fun z hz => by cases hz) (fun s d r _ h => by cases h)) tl h1
   ·rename_i hc
    exact cmp_noPair hF t none (tl ++ [c]) (fun z hz => by
     rcases List.mem_append.1 hz with hz | hz
     ·exact h1 z hz
     ·rw [List.mem_singleton.1 hz]; exact hc) (fun s d r h => by cases h)
 | c :: t, some s, tl, h1, h2 => by
   rw [cmpF]
   split
   ·rename_i h
    refine cmp_noPair hF t _ tl h1 (fun s' d r hs hd => ?_)
    injection hs with hs
    subst hs
    subst hd
    refine comp_past hF (comp_eta h.2) ?_ (h1 d (List.mem_cons_self ..))
    simpa using List.all_eq_true.1 h.1 d (List.mem_cons_self ..)
   ·rename_i hn
    split
    ·rename_i hc
     have hR := cmp_noPair hF t (some c) [] (fun z hz => by cases hz) (fun s d r _ h => by cases h)
     cases tl with
     | cons d r =>
       exact ⟨fun _ => h2 s d r rfl rfl, noPair_marks _ hR (d :: r) h1⟩
     | nil =>
       obtain ⟨s', r, e, h⟩ := cmp_head2 hF t c []
       show noPair T (s :: cmpF T t (some c) [])
       rw [e] at hR ⊢
       refine ⟨fun _ => ?_, hR⟩
       cases hcp : (compF T s s').2 with
       | false => rfl
       | true =>
         exfalso
         rcases h with rfl | h
         ·exact hn ⟨rfl, hcp⟩
         ·exact h (comp_second hF (comp_eta hcp))
    ·rename_i hc
     refine cmp_noPair hF t (some s) (tl ++ [c]) (fun z hz => by
      rcases List.mem_append.1 hz with hz | hz
      ·exact h1 z hz
      ·rw [List.mem_singleton.1 hz]; exact hc) (fun s' d r hs hd => ?_)
     injection hs with hs
     subst hs
     cases tl with
     | cons d' r' =>
       injection hd with hd _
       subst hd
       exact h2 s d' r' rfl rfl
     | nil =>
       injection hd with hd _
       subst hd
       cases hcp : (compF T s c).2 with
       | false => rfl
       | true => exact absurd ⟨rfl, hcp⟩ hn
theorem nfc_noPair (hF : Fine T) (x : List Int) : noPair T (nfcF T x) := cmp_noPair hF _ none [] (fun z hz => by cases hz) (fun s d r h => by cases h)
end
theorem nfc_joins {T : List Rec} (hF : Fine T) (x y : List Int) {c : Int} (h : safeF T c = true) : nfcF T (x ++ c :: y) = nfcF T x ++ nfcF T (c :: y) := by
 have hc : calmF T c = true ∧ classF T c = 0 := by
  unfold safeF at h
  unfold calmF
  simp only [Bool.and_eq_true, decide_eq_true_eq] at h
  exact ⟨by rw [h.1.2, h.2]; rfl, h.1.1⟩
 obtain ⟨s2, B2, e2, hch2, hs2, hns2, hB2⟩ := calm_start hF hc.1 hc.2
 have hop : openX T (c :: y) = s2 :: (B2 ++ openX T y) := by
  unfold openX
  rw [List.flatMap_cons, e2]
  rfl
 have hs2' : numF T 2 (·.n) s2 = 0 := hs2
 have e3 : nfdF T (c :: y) = s2 :: runF (numF T 2 (·.n)) (B2 ++ openX T y) [] := by
  unfold nfdF sortF
  rw [hop, runF, if_pos hs2']
  rfl
 have e4 : nfdF T (x ++ c :: y) = nfdF T x ++ nfdF T (c :: y) := by
  unfold nfdF sortF
  rw [openX_app, hop]
  exact runF_apart _ _ _ (.inr ⟨_, _, rfl, hs2'⟩)
 unfold nfcF composeF
 rw [e4, e3, cmp_anew hF hs2 hns2, cmpF, if_pos hs2]
 rfl
end Go.Proofs.YtnohcnneflogjaaGreat.M.Nm
