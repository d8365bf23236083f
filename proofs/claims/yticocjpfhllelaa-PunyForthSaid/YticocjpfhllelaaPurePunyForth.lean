/- In plain Lean: a text that is read is written just so. -/
import Derived.Test.YticocjpfhllelaaXP9
import Derived.Test.YticocjpfhllelaaPP7
set_option linter.unusedVariables false
set_option linter.unusedSimpArgs false
namespace Go.Proofs.Yticocjpfhllelaa.Pure
open Go.RowKit Go.Proofs.Yticocjpfhllelaa.XP Go.Proofs.StableSort Go.Proofs.YticocjpfhllelaaW.PrintWords Go.Proofs.YticocjpfhllelaaW.PrintLast

def lastL : List Int → Nat → Nat → Nat
  | [], _, l => l
  | b :: t, i, l => if b = 45 then lastL t (i + 1) i else lastL t (i + 1) l
theorem lastL_cons (b : Int) (t : List Int) (i l : Nat) : lastL (b :: t) i l = if b = 45 then lastL t (i + 1) i else lastL t (i + 1) l := rfl
theorem scanL_last : ∀ (bs : List Int) (i l : Nat) (r : Int), scanL bs i l = some r → r = (lastL bs i l : Int) ∧ ∀ b ∈ bs, b < 128
  | [], i, l, r, h => by simp [scanL] at h; exact ⟨h.symm, by simp⟩
  | b :: t, i, l, r, h => by
    rw [scanL_cons] at h
    split at h
    · exact absurd h (by simp)
    · rename_i hb
      unfold lastL
      split at h
      · rename_i h45
        rw [if_pos h45]
        have := scanL_last t (i + 1) i r (by rw [← h]; rfl)
        refine ⟨this.1, fun x hx => ?_⟩
        rcases List.mem_cons.1 hx with hx | hx
        · omega
        · exact this.2 x hx
      · rename_i h45
        rw [if_neg h45]
        have := scanL_last t (i + 1) l r (by rw [← h]; rfl)
        refine ⟨this.1, fun x hx => ?_⟩
        rcases List.mem_cons.1 hx with hx | hx
        · omega
        · exact this.2 x hx
theorem lastL_at : ∀ (bs : List Int) (i l : Nat), lastL bs i l = l ∨ ∃ j, ∃ h : j < bs.length, lastL bs i l = i + j ∧ bs[j] = 45
  | [], i, l => .inl rfl
  | b :: t, i, l => by
    unfold lastL
    split
    · rename_i h45
      rcases lastL_at t (i + 1) i with h | ⟨j, hj, h1, h2⟩
      · exact .inr ⟨0, by simp, by omega, by simpa using h45⟩
      · exact .inr ⟨j + 1, by simp; omega, by omega, by simpa using h2⟩
    · rcases lastL_at t (i + 1) l with h | ⟨j, hj, h1, h2⟩
      · exact .inl h
      · exact .inr ⟨j + 1, by simp; omega, by omega, by simpa using h2⟩

theorem mem_sel {l : List Int} {T : Nat → Bool} : ∀ (b j : Nat), j < b → T j = true → rd l j ∈ sel l T b
  | 0, j, h, _ => by omega
  | b + 1, j, h, ht => by
    simp only [sel]
    by_cases hj : j = b
    · subst hj
      rw [if_pos ht]
      exact List.mem_append_right _ (by simp)
    · exact List.mem_append_left _ (mem_sel b j (by omega) ht)

/-- What is read from some points below 80 on is written just so. -/
theorem forth_enc (B rest x : List Int) (hB : ∀ y ∈ B, 0 ≤ y ∧ y < 128) (hl : B.length + rest.length ≤ 1000) (hc : ∀ b ∈ rest, ¬ (65 ≤ b ∧ b ≤ 90)) (h : runD rest B 128 0 72 0 1 0 1 true = (x, 0)) :
    encFn x = some (strOfNums (headL B ++ rest), 0) := by
  have hR := read_all rest.length rest B x 128 0 72 0 (Nat.le_refl _) (by omega) (by omega) hc (fun y hy => by
    have := hB y hy
    unfold validI
    simp only [Bool.and_eq_true, Bool.or_eq_true, decide_eq_true_eq]
    omega) (by omega) (by omega) (by omega) (by omega) (by omega) (by omega) (by omega) (by omega) h
  obtain ⟨T, R, h1, h2, h3, h4, h5, h6, h7⟩ := hR.places
  have hv := hR.valid
  have hlen := hR.len
  have hR128 : ∀ a ∈ R, ¬ rd x a < 128 := fun a ha => by have := h6 a ha; omega
  have hT128 : ∀ j, T j = true → rd x j < 128 := fun j hj => by
    have := mem_sel (l := x) x.length j (h2 j hj) hj
    rw [h1] at this
    exact (hB _ this).2
  have hT : basicT x x.length = T := by
    funext j
    simp only [basicT]
    by_cases hj : j < x.length
    · by_cases hp : rd x j < 128
      · have : T j = true := by
          rcases h4 j hj with h8 | h8
          · exact h8
          · exact absurd hp (hR128 j h8)
        simp [hj, hp, this]
      · have : T j = false := by
          cases hTj : T j with
          | false => rfl
          | true => exact absurd (hT128 j hTj) hp
        simp [hp, this]
    · have : T j = false := by
        cases hTj : T j with
        | false => rfl
        | true => exact absurd (h2 j hTj) hj
      simp [hj, this]
  have hRn : R.Nodup := h5.imp (fun {a b} hab => by unfold ltP at hab; intro e; rw [e] at hab; omega)
  have hperm : R.Perm (oth x x.length) := by
    refine (List.perm_ext_iff_of_nodup hRn ((oth_nodup x x.length).imp (fun h => by omega))).2 fun a => ?_
    rw [mem_oth]
    refine ⟨fun ha => ⟨(h3 a ha).1, hR128 a ha⟩, fun ha => ?_⟩
    rcases h4 a ha.1 with h8 | h8
    · exact absurd (hT128 a h8) ha.2
    · exact h8
  have hord : ordP (rd x) ((oth x x.length).map (fun a : Nat => (a : Int))) = R.map (fun a : Nat => (a : Int)) := by
    refine (ordP_unique (hperm.map _) ?_).symm
    rw [List.pairwise_map]
    refine h5.imp fun {a b} hab => ?_
    unfold ltP at hab
    unfold leP
    omega
  have hRl : R.length ≤ x.length := by
    have h2 : ∀ b, (oth x b).length ≤ b := fun b => by
      induction b with
      | zero => simp [oth]
      | succ b ih => simp only [oth, List.length_append]; split <;> simp <;> omega
    rw [hperm.length_eq]; exact h2 _
  obtain ⟨c, hA, hF⟩ := encA_run x hv (by omega) x.length 0 (by omega) (List.replicate (x.length + 1) 0) (by
    have : basicT x 0 = fun _ => false := by funext j; simp [basicT]
    rw [this]
    exact Fen.start _ (by omega))
  have e0 : sel x (basicT x 0) x.length = [] := List.eq_nil_of_length_eq_zero (by
    rw [sel_length]
    have : basicT x 0 = fun _ => false := by funext j; simp [basicT]
    rw [this]
    have hc : ∀ b, cnt (fun _ => false) b = 0 := fun b => by induction b with | zero => rfl | succ b ih => simp [cnt, ih]
    exact hc _)
  rw [e0, hT, h1] at hA
  rw [hT] at hF
  simp only [List.drop_zero, oth, List.map_nil] at hA
  have hcb : cnt T x.length = B.length := by rw [← sel_length x T, h1]
  have hhd : (if 0 < B.length then B ++ [45] else B) = headL B := by
    unfold headL
    split
    · rfl
    · exact List.eq_nil_of_length_eq_zero (by omega)
  have hhl : (headL B).length ≤ B.length + 1 := by unfold headL; split <;> simp
  have h8 := h7 c (headL B) hF (by omega)
  unfold encFn
  rw [if_neg (by omega), sound_f x (by omega) (x.length + 5) (by omega), decide_eq_true hv, Option.bind_some, if_pos rfl, hA, Option.bind_some]
  simp only
  rw [if_pos ⟨hF.len, by omega⟩, hord, hhd, ← hcb, h8]

theorem dec_err : ∀ (bs x X : List Int) (n i bias st k num wt e : Int) (fresh : Bool), runD bs X n i bias st k num wt fresh = (x, e) → e ≠ 0 → x = []
  | [], x, X, n, i, bias, st, k, num, wt, e, fresh, h, he => by
    unfold runD at h
    split at h
    · injection h with h1 h2; exact absurd h2.symm he
    · injection h with h1 h2; exact h1.symm
  | b :: bs, x, X, n, i, bias, st, k, num, wt, e, fresh, h, he => by
    by_cases hd : dval b < 0
    · rw [runD.eq_def] at h
      simp only [if_pos hd] at h
      injection h with h1 h2; exact h1.symm
    · rw [runD_cons _ _ _ _ _ _ _ _ _ _ _ (by omega)] at h
      split at h
      · exact dec_err bs x X n i bias st _ _ _ e false h he
      · generalize (if 0 < dval b then min (num + dval b * wt) 2147483648 else num) = nn at h
        unfold finD at h
        split at h
        · injection h with h1 h2; exact h1.symm
        · split at h
          · exact dec_err bs x _ _ _ _ _ _ _ _ e true h he
          · injection h with h1 h2; exact h1.symm

theorem forth_dec (s : ByteArray) (hs : s.size ≤ 1000) (x : List Int) (h : decB (bytesOf s) = (x, 0))
    (hcap : ∀ j, j < s.size → lastL (bytesOf s) 0 0 ≤ j → (lastL (bytesOf s) 0 0 < j ∨ lastL (bytesOf s) 0 0 = 0) → ¬ (65 ≤ bt s j ∧ bt s j ≤ 90)) : encFn x = some (s, 0) := by
  have hbl := bytesOf_length s
  have hrange := bytes_range s
  have hself : strOfNums (bytesOf s) = s := by
    apply ByteArray.ext
    simp only [strOfNums, bytesOf, List.map_map]
    apply Array.ext'
    simp only []
    conv => rhs; rw [← List.map_id s.data.toList]
    exact List.map_congr_left fun u _ => by simp
  have hcap2 : ∀ j (hj : j < (bytesOf s).length), lastL (bytesOf s) 0 0 ≤ j → (lastL (bytesOf s) 0 0 < j ∨ lastL (bytesOf s) 0 0 = 0) → ¬ (65 ≤ (bytesOf s)[j] ∧ (bytesOf s)[j] ≤ 90) := fun j hj h1 h2 => by
    have := hcap j (by omega) h1 h2
    rwa [← rd_bytesOf, rd_at _ hj] at this
  conv => rhs; rw [← hself]
  generalize bytesOf s = bs at *
  unfold decB at h
  rw [if_neg (by omega)] at h
  cases hsc : scanL bs 0 0 with
  | none =>
    rw [hsc] at h
    injection h with h1 h2
    exact absurd h2 (by decide)
  | some r =>
    rw [hsc] at h
    obtain ⟨hr, h128⟩ := scanL_last bs 0 0 r hsc
    obtain ⟨l, hl⟩ : ∃ l, lastL bs 0 0 = l := ⟨_, rfl⟩
    have hat := lastL_at bs 0 0
    rw [hl] at hr hcap2 hat
    subst hr
    simp only [Int.toNat_natCast] at h
    by_cases h0 : 0 < l
    · rw [if_pos (by omega)] at h
      obtain ⟨j, hj, h1, h2⟩ : ∃ j, ∃ h : j < bs.length, l = 0 + j ∧ bs[j] = 45 := by
        rcases hat with h1 | h1
        · omega
        · exact h1
      obtain rfl : l = j := by omega
      have hb := forth_enc (bs.take l) (bs.drop (l + 1)) x (fun y hy => ⟨(hrange y (List.mem_of_mem_take hy)).1, h128 y (List.mem_of_mem_take hy)⟩) (by rw [List.length_take, List.length_drop]; omega) (fun b hb => by
        obtain ⟨q, hq, rfl⟩ := List.getElem_of_mem hb
        rw [List.length_drop] at hq
        rw [List.getElem_drop]
        exact hcap2 _ (by omega) (by omega) (.inl (by omega))) h
      rw [hb]
      congr 2
      congr 1
      unfold headL
      rw [if_pos (by rw [List.length_take]; omega), List.append_assoc, List.singleton_append, ← h2, List.getElem_cons_drop, List.take_append_drop]
    · obtain rfl : l = 0 := by omega
      rw [if_neg (by omega)] at h
      have hb := forth_enc [] bs x (by simp) (by simp; omega) (fun b hb => by
        obtain ⟨q, hq, rfl⟩ := List.getElem_of_mem hb
        exact hcap2 _ hq (by omega) (.inr rfl)) (by simpa using h)
      rw [hb]
      rfl

theorem forth_l1 (s : ByteArray) (hs : s.size ≤ 1000) (x : List Int) (l : Nat) (hgood : (∀ j, j < s.size → l ≤ j → (l < j ∨ l = 0) → ¬ (65 ≤ bt s j ∧ bt s j ≤ 90)) → encFn x = some (s, 0)) :
    ∀ (m j : Nat), j + m = s.size → l ≤ j → (∀ j', j' < j → l ≤ j' → (l < j' ∨ l = 0) → ¬ (65 ≤ bt s j' ∧ bt s j' ≤ 90)) → ∀ K, m + 200 < K → endonymlaw11_PunyForth.l1 K s x l j = some true := by
  intro m
  induction m with
  | zero =>
    intro j hj hlj hc K hK
    obtain ⟨K, rfl⟩ : ∃ q, K = q + 1 := ⟨K - 1, by omega⟩
    simp only [endonymlaw11_PunyForth.l1]
    rw [if_neg (by omega), show puny_Encode.f x = _ from hgood (fun j' h1 h2 h3 => hc j' (by omega) h2 h3)]
    simp only [Option.bind_some]
    rw [told_f _ (by omega)]
    simp
  | succ m ih =>
    intro j hj hlj hc K hK
    obtain ⟨K, rfl⟩ : ∃ q, K = q + 1 := ⟨K - 1, by omega⟩
    have e1 : wrap64 ((j : Int) + 1) = ((j + 1 : Nat) : Int) := by rw [wrap64_id (by omega) (by omega)]; omega
    simp only [endonymlaw11_PunyForth.l1]
    rw [if_pos (by omega), if_pos (by omega), e1]
    have next : ¬ (65 ≤ bt s j ∧ bt s j ≤ 90 ∧ (l < j ∨ l = 0)) → endonymlaw11_PunyForth.l1 K s x l ((j + 1 : Nat) : Int) = some true := fun hn =>
      ih (j + 1) (by omega) (by omega) (fun j' h1 h2 h3 h4 => by
        by_cases hjj : j' = j
        · subst hjj
          exact hn ⟨h4.1, h4.2, h3⟩
        · exact hc j' (by omega) h2 h3 h4) K (by omega)
    have told : ((endonymlaw11_told.f K).bind fun t => some t) = some true := by rw [told_f _ (by omega)]; rfl
    by_cases h1 : bt s j ≥ 65
    · rw [if_pos h1]
      by_cases h2 : bt s j ≤ 90
      · rw [if_pos h2]
        by_cases h3 : (j : Int) > (l : Int)
        · rw [if_pos h3]; exact told
        · rw [if_neg h3]
          by_cases h4 : (l : Int) = 0
          · rw [if_pos h4]; exact told
          · rw [if_neg h4]; exact next (by omega)
      · rw [if_neg h2]; exact next (by omega)
    · rw [if_neg h1]; exact next (by omega)
theorem forth_l0 (s : ByteArray) (hs : s.size ≤ 1000) (x : List Int) (hend : ∀ K, 1300 ≤ K → endonymlaw11_PunyForth.l1 K s x (lastL (bytesOf s) 0 0) (lastL (bytesOf s) 0 0) = some true) :
    ∀ (m i l : Nat), i + m = s.size → lastL ((bytesOf s).drop i) i l = lastL (bytesOf s) 0 0 → ∀ K, m + 1400 < K → endonymlaw11_PunyForth.l0 K s x l i = some true := by
  intro m
  induction m with
  | zero =>
    intro i l hi hl K hK
    obtain ⟨K, rfl⟩ : ∃ q, K = q + 1 := ⟨K - 1, by omega⟩
    rw [List.drop_eq_nil_of_le (by rw [bytesOf_length]; omega)] at hl
    simp only [lastL] at hl
    simp only [endonymlaw11_PunyForth.l0]
    rw [if_neg (by omega), hl]
    exact hend K (by omega)
  | succ m ih =>
    intro i l hi hl K hK
    obtain ⟨K, rfl⟩ : ∃ q, K = q + 1 := ⟨K - 1, by omega⟩
    have e1 : wrap64 ((i : Int) + 1) = ((i + 1 : Nat) : Int) := by rw [wrap64_id (by omega) (by omega)]; omega
    rw [bytes_at s i (by omega), lastL_cons] at hl
    simp only [endonymlaw11_PunyForth.l0]
    rw [if_pos (by omega), if_pos (by omega), e1]
    by_cases h45 : bt s i = 45
    · rw [if_pos h45]
      rw [if_pos h45] at hl
      exact ih (i + 1) i (by omega) hl K (by omega)
    · rw [if_neg h45]
      rw [if_neg h45] at hl
      exact ih (i + 1) l (by omega) hl K (by omega)

theorem PunyForth : endonymlaw11_PunyForth.Pure := by
  intro a0 _
  refine ⟨10000, ?_⟩
  unfold endonymlaw11_PunyForth.f
  rw [mn_min, if_pos (by omega), if_pos (by omega)]
  obtain ⟨n, hn⟩ : ∃ n : Nat, min (a0.size : Int) 1000 = n := ⟨min a0.size 1000, by omega⟩
  rw [hn, Int.toNat_natCast]
  have hs : (a0.extract 0 n).size ≤ 1000 := by rw [ByteArray.size_extract]; omega
  generalize a0.extract 0 n = s at hs ⊢
  rw [dec_f s 10000 (by omega)]
  simp only [Option.bind_some]
  by_cases he : (decB (bytesOf s)).2 = 0
  · rw [if_pos he]
    have hlast : lastL (bytesOf s) 0 0 ≤ s.size := by
      rcases lastL_at (bytesOf s) 0 0 with h | ⟨j, hj, h1, _⟩
      · omega
      · rw [bytesOf_length] at hj; omega
    refine forth_l0 s hs _ (fun K hK => ?_) s.size 0 0 (by omega) rfl 10000 (by omega)
    exact forth_l1 s hs _ _ (fun hc => forth_dec s hs _ (by rw [← he]) hc) (s.size - lastL (bytesOf s) 0 0) _ (by omega) (Nat.le_refl _) (fun j' h1 h2 _ => by omega) K (by omega)
  · rw [if_neg he, told_f _ (by omega)]
    simp only [Option.bind_some, if_true]
    have key : ∀ bs, (decB bs).2 ≠ 0 → (decB bs).1 = [] := by
      intro bs
      unfold decB
      split
      · exact fun _ => rfl
      · cases scanL bs 0 0 with
        | none => exact fun _ => rfl
        | some l => exact fun he => dec_err _ _ _ _ _ _ _ _ _ _ _ _ rfl he
    have hnil := key _ he
    rw [hnil]
    rfl
end Go.Proofs.Yticocjpfhllelaa.Pure
