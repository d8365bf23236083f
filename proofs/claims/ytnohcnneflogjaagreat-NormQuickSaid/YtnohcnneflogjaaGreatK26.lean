/- What the forms of a right table are, plainly. -/
import Derived.Test.YtnohcnneflogjaaGreatK01
import Derived.Test.YtnohcnneflogjaaGreatK17
import Derived.Test.YtnohcnneflogjaaGreatK09
import Derived.Test.YtnohcnneflogjaaGreatK06
set_option maxHeartbeats 4000000
set_option maxRecDepth 100000
set_option linter.unusedVariables false
set_option linter.unusedSimpArgs false
namespace Go.Proofs.YtnohcnneflogjaaGreat.M
open Go.RowKit
structure Fine (T : List Rec) : Prop extends Good T where
 recs : ∀ i, i < T.length → recordE T i = 0
 base : bases.all (plainB T) = true
theorem fine_of {T : List Rec} (hW : ∀ x ∈ T, x.Wf) (h : (checkE T).2 = 0) : Fine T := by
 have h1 : (tableE T).2 = 0 := by
  rcases Int.decEq (tableE T).2 0 with h2 | h2
  ·rw [checkE_table h2] at h
   exact absurd h h2
  ·exact h2
 have hG := good_of hW h1
 have key : ∀ i, i < T.length → recordE T i = 0 := by
  intro i hi
  unfold checkE at h
  rw [if_neg (by rw [h1]; decide)] at h
  cases hf : firstE (recordE T) T.length 0 with
  | none => exact (firstE_none _ _ _).1 hf i (Nat.zero_le _) (by omega)
  | some r =>
    rw [hf] at h
    obtain ⟨j, e⟩ := r
    exact absurd h (firstE_some _ _ _ _ _ hf).2.2.2
 refine ⟨hG, key, ?_⟩
 have h2 := checkE_bases h1 key
 rw [h2] at h
 cases hb : bases.all (plainB T) with
 | true => rfl
 | false =>
   rw [hb] at h
   cases h
theorem Right.oneOf {x : Rec} (h : Right x) (hk : x.kind = 5 ∨ x.kind = 7 ∨ x.kind = 8 ∨ x.kind = 13) : x.lo = x.hi := by
 have hf := h.fits
 unfold fitsB at hf
 rcases hk with hk | hk | hk | hk <;> simp [hk, oneB] at hf <;> omega
theorem right_to {x : Rec} (h : Right x) (hk : x.kind = 3 ∨ x.kind = 4 ∨ x.kind = 5 ∨ x.kind = 7 ∨ x.kind = 8 ∨ x.kind = 13) : x.to.length ≤ 24 := by
 have hf := h.fits
 unfold fitsB at hf
 rcases hk with hk | hk | hk | hk | hk | hk <;> simp [hk, oneB, listB, shiftsB] at hf <;> omega
theorem findR_snoc (L : List Rec) (f c : Int) (x : Rec) : findR (L ++ [x]) f c = (findR L f c).or (if hitB f c x then some x else none) := by
 unfold findR
 rw [List.find?_append]
 congr 1
 cases h : hitB f c x <;> simp [List.find?_cons, h]
theorem findR_some {T : List Rec} {f c : Int} {x : Rec} (h : findR T f c = some x) : x ∈ T ∧ hitB f c x = true := ⟨List.mem_of_find?_eq_some h, List.find?_some h⟩
theorem Good.hit_one {T : List Rec} (hG : Good T) {f c : Int} {i j : Nat} {x y : Rec} (hx : T[i]? = some x) (hy : T[j]? = some y) (h1 : hitB f c x = true) (h2 : hitB f c y = true) (h15 : f ≠ 10) : i = j := by
 have hm : ∀ (i j : Nat) (x y : Rec), i < j → T[i]? = some x → T[j]? = some y → hitB f c x = true → hitB f c y = true → False := by
  intro i j x y hij hx hy h1 h2
  have hc : clashB x y = false := by
   have := List.pairwise_iff_getElem.1 hG.two i j (List.getElem?_eq_some_iff.1 hx).1 (List.getElem?_eq_some_iff.1 hy).1 hij
   rw [(List.getElem?_eq_some_iff.1 hx).2, (List.getElem?_eq_some_iff.1 hy).2] at this
   exact this
  unfold hitB at h1 h2
  simp only [Bool.and_eq_true, decide_eq_true_eq] at h1 h2
  rw [clash_same (by rw [h1.1, h2.1]) (fun e => h15 (by rw [← h1.1]; exact (fam_ten _).2 e))] at hc
  have := (meetB_iff x y).2 ⟨c, h1.2, h2.2⟩
  rw [this] at hc
  cases hc
 rcases Nat.lt_trichotomy i j with h | h | h
 ·exact (hm i j x y h hx hy h1 h2).elim
 ·exact h
 ·exact (hm j i y x h hy hx h2 h1).elim
theorem take_mem_at {T : List Rec} {i : Nat} {y : Rec} (h : y ∈ T.take i) : ∃ j, j < i ∧ T[j]? = some y := by
 obtain ⟨j, hj, he⟩ := List.mem_iff_getElem.1 h
 rw [List.length_take] at hj
 rw [List.getElem_take] at he
 exact ⟨j, by omega, by rw [List.getElem?_eq_getElem (by omega), he]⟩
theorem Good.hit_new {T : List Rec} (hG : Good T) {f c : Int} {i : Nat} {x : Rec} (hx : T[i]? = some x) (h1 : hitB f c x = true) (h15 : f ≠ 10) : findR (T.take i) f c = none := by
 cases h : findR (T.take i) f c with
 | none => rfl
 | some y =>
   obtain ⟨h2, h3⟩ := findR_some h
   obtain ⟨j, hj, hy⟩ := take_mem_at h2
   have := hG.hit_one hy hx h3 h1 h15
   omega
theorem Good.find_at {T : List Rec} (hG : Good T) {f c : Int} {i : Nat} {x : Rec} (hx : T[i]? = some x) (h1 : hitB f c x = true) (h15 : f ≠ 10) : findR T f c = some x := by
 cases h : findR T f c with
 | none =>
   unfold findR at h
   rw [List.find?_eq_none] at h
   exact absurd h1 (h x (List.mem_of_getElem? hx))
 | some y =>
   obtain ⟨h2, h3⟩ := findR_some h
   obtain ⟨j, hj⟩ := List.mem_iff_getElem?.1 h2
   have := hG.hit_one hj hx h3 h1 h15
   subst this
   rw [hj] at hx
   exact hx
theorem take_succ_at {T : List Rec} {i : Nat} {x : Rec} (hx : T[i]? = some x) : T.take (i + 1) = T.take i ++ [x] := by
 rw [List.take_add_one, hx]
 rfl
theorem hit_point {x : Rec} (hR : Right x) (h1 : x.lo = x.hi) (h4 : x.kind ≠ 4) {f c : Int} (hf : fam x.kind = f) : hitB f c x = decide (c = x.lo) := by
 unfold hitB speaksB
 have := hR.low
 rw [dTz hf, dTz h4, Bool.true_and, Bool.true_or, Bool.and_true]
 by_cases hc : c = x.lo
 ·subst hc
  rw [dTz rfl]
  simp
  omega
 ·rw [dFz hc]
  cases hb : (decide (0 ≤ c) && decide (c ≤ 1114111) && decide (x.lo ≤ c) && decide (c ≤ x.hi)) with
  | false => rfl
  | true =>
    simp only [Bool.and_eq_true, decide_eq_true_eq] at hb
    omega
def rowG (T : List Rec) (f : Int) (g : Rec → List Int) (c : Int) : Option (List Int) := (findR T f c).map g
theorem rowG_step {T : List Rec} (hG : Good T) {f : Int} (g : Rec → List Int) {i : Nat} {x : Rec} (hx : T[i]? = some x) (hf : fam x.kind = f) (h10 : f ≠ 10) (h1 : x.lo = x.hi) (h4 : x.kind ≠ 4) (c : Int) :
 rowG (T.take (i + 1)) f g c = if c = x.lo then some (g x) else rowG (T.take i) f g c := by
 have hR := hG.right x (List.mem_of_getElem? hx)
 have hp := hit_point hR h1 h4 (c := c) hf
 unfold rowG
 rw [take_succ_at hx, findR_snoc]
 by_cases hc : c = x.lo
 ·rw [dTz hc] at hp
  rw [hG.hit_new hx hp h10, hp, if_pos rfl, if_pos hc]
  rfl
 ·rw [dFz hc] at hp
  rw [hp, if_neg (by decide), if_neg hc]
  cases findR (T.take i) f c <;> rfl
theorem rowG_skip {T : List Rec} {f : Int} (g : Rec → List Int) {i : Nat} {x : Rec} (hx : T[i]? = some x) (hf : fam x.kind ≠ f) (c : Int) :
 rowG (T.take (i + 1)) f g c = rowG (T.take i) f g c := by
 unfold rowG
 rw [take_succ_at hx, findR_snoc]
 have : hitB f c x = false := by
  unfold hitB
  rw [dFz hf]
  rfl
 rw [this, if_neg (by decide)]
 cases findR (T.take i) f c <;> rfl
def fullL (T : List Rec) (c : Int) : List Int := match fullF T c with | .ok l => l | .error _ => []
theorem Fine.full_ok {T : List Rec} (hF : Fine T) {i : Nat} {x : Rec} (hx : T[i]? = some x) (hf : fam x.kind = 3) : ∃ l, fullF T x.lo = .ok l := by
 have hi : i < T.length := (List.getElem?_eq_some_iff.1 hx).1
 have h0 := hF.recs i hi
 have hw : wrongE T x = 0 := by
  rcases Int.decEq (wrongE T x) 0 with h | h
  ·rw [recordE_wrong hx h] at h0
   exact h0
  ·exact h
 cases hl : fullF T x.lo with
 | ok l => exact ⟨l, rfl⟩
 | error e =>
   have hl0 : ¬ x.lo < 128 := fun h => by rw [wrongE_base (.inr hf) h] at hw; exact absurd hw (by decide)
   have hh : hangulB x = false := by
    cases hh : hangulB x with
    | false => rfl
    | true => rw [wrongE_hangul (.inr hf) hl0 hh] at hw; exact absurd hw (by decide)
   rw [wrongE_err hf hl0 hh hl] at hw
   subst hw
   exact absurd hl (fun h => walkF_err h rfl)
def compG (T : List Rec) (p : Int × Int) : Option Value := (T.find? (pairAt p.1 p.2)).map (fun x => .int .i32 x.lo)
def secG (T : List Rec) (c : Int) : Option Value := if T.any (fun x => decide (x.kind = 7) && decide (rd x.to 1 = c)) then some (.int .i64 1) else none
theorem Fine.pair_new {T : List Rec} (hF : Fine T) {i : Nat} {x : Rec} (hx : T[i]? = some x) (hk : x.kind = 7) : (T.take i).find? (pairAt (rd x.to 0) (rd x.to 1)) = none := by
 have hi : i < T.length := (List.getElem?_eq_some_iff.1 hx).1
 have h0 := hF.recs i hi
 have hw : wrongE T x = 0 := by
  rcases Int.decEq (wrongE T x) 0 with h | h
  ·rw [recordE_wrong hx h] at h0
   exact h0
  ·exact h
 rw [recordE_right hx hw, againB_ahead hx hk] at h0
 have h1 : aheadB T (rd x.to 0) (rd x.to 1) i = false := by
  cases h : aheadB T (rd x.to 0) (rd x.to 1) i with
  | false => rfl
  | true => rw [h] at h0; cases h0
 unfold aheadB at h1
 rw [List.find?_eq_none]
 intro y hy
 have := (List.any_eq_false.1 h1) y hy
 unfold pairAt
 exact this
theorem compG_step {T : List Rec} (hF : Fine T) {i : Nat} {x : Rec} (hx : T[i]? = some x) (hk : x.kind = 7) (p : Int × Int) :
 compG (T.take (i + 1)) p = if p = (rd x.to 0, rd x.to 1) then some (.int .i32 x.lo) else compG (T.take i) p := by
 unfold compG
 rw [take_succ_at hx, List.find?_append]
 by_cases hp : p = (rd x.to 0, rd x.to 1)
 ·rw [if_pos hp]
  subst hp
  rw [hF.pair_new hx hk]
  have : pairAt (rd x.to 0) (rd x.to 1) x = true := by simp [pairAt, hk]
  simp [List.find?_cons, this]
 ·rw [if_neg hp]
  have : pairAt p.1 p.2 x = false := by
   cases h : pairAt p.1 p.2 x with
   | false => rfl
   | true =>
     simp [pairAt, hk] at h
     exact absurd (Prod.ext h.1.symm h.2.symm) hp
  simp only [List.find?_cons, this, List.find?_nil, Option.or_none]
theorem compG_skip {T : List Rec} {i : Nat} {x : Rec} (hx : T[i]? = some x) (hk : x.kind ≠ 7) (p : Int × Int) : compG (T.take (i + 1)) p = compG (T.take i) p := by
 unfold compG
 rw [take_succ_at hx, List.find?_append]
 have : pairAt p.1 p.2 x = false := by simp [pairAt, hk]
 simp only [List.find?_cons, this, List.find?_nil, Option.or_none]
theorem secG_step {T : List Rec} {i : Nat} {x : Rec} (hx : T[i]? = some x) (hk : x.kind = 7) (c : Int) :
 secG (T.take (i + 1)) c = if c = rd x.to 1 then some (.int .i64 1) else secG (T.take i) c := by
 unfold secG
 rw [take_succ_at hx, List.any_append]
 by_cases hc : c = rd x.to 1
 ·rw [if_pos hc]
  subst hc
  simp [hk]
 ·rw [if_neg hc]
  simp [hk, Ne.symm hc]
theorem secG_skip {T : List Rec} {i : Nat} {x : Rec} (hx : T[i]? = some x) (hk : x.kind ≠ 7) (c : Int) : secG (T.take (i + 1)) c = secG (T.take i) c := by
 unfold secG
 rw [take_succ_at hx, List.any_append]
 simp [hk]
end Go.Proofs.YtnohcnneflogjaaGreat.M
namespace Go.Proofs.YtnohcnneflogjaaGreat.M
open Go.RowKit
def RowsMap (H : Nat) (w : World) (b m : Nat) (G : Int → Option (List Int)) : Prop :=
 ∃ n F, n ≤ m ∧ H ≤ b ∧ MapIs Tryz.prog 21 w b n F ∧ (∀ c, G c = none → F (.int .i32 c) = none) ∧
   ∀ c l, G c = some l → ∃ A cap, F (.int .i32 c) = some (.slice A l.length cap) ∧ Ints .i32 w A l ∧ ∀ a, A = some a → H ≤ a.block
theorem RowsMap.lt {H : Nat} {w : World} {b m : Nat} {G : Int → Option (List Int)} (h : RowsMap H w b m G) : b < w.heap.size := by
 obtain ⟨n, F, _, _, h3, _⟩ := h
 exact h3.lt
theorem RowsMap.le {H : Nat} {w : World} {b m : Nat} {G : Int → Option (List Int)} (h : RowsMap H w b m G) : H ≤ b := by
 obtain ⟨n, F, _, h2, _⟩ := h
 exact h2
theorem RowsMap.mono {H : Nat} {w : World} {b m m' : Nat} {G : Int → Option (List Int)} (h : RowsMap H w b m G) (hm : m ≤ m') : RowsMap H w b m' G := by
 obtain ⟨n, F, h1, r⟩ := h
 exact ⟨n, F, Nat.le_trans h1 hm, r⟩
theorem RowsMap.congr {H : Nat} {w : World} {b m : Nat} {G G' : Int → Option (List Int)} (h : RowsMap H w b m G) (hG : ∀ c, G c = G' c) : RowsMap H w b m G' := by
 have : G = G' := funext hG
 rwa [← this]
theorem RowsMap.made {H : Nat} (w : World) (hH : H ≤ w.heap.size) : RowsMap H (w.alloc (.map #[] 0)) w.heap.size 0 (fun _ => none) :=
 ⟨0, _, Nat.le_refl _, hH, MapIs.made _ _ _, fun _ _ => rfl, fun c l h => by cases h⟩
theorem ints_chg {M : Nat → Prop} {H : Nat} {w w' : World} {A : Option Addr} {l : List Int} (h : Ints .i32 w A l) (hA : ∀ a, A = some a → H ≤ a.block) (hc : Chg M w w') (hM : ∀ k, M k → k < H ∨ w.heap.size ≤ k) : Ints .i32 w' A l := by
 intro i v hv
 obtain ⟨a, ha, hcell⟩ := h i v hv
 have hb := add_block a i
 have hl := cell_lt hcell
 rw [hb] at hl
 have h6 := hA a ha
 refine ⟨a, ha, ?_⟩
 rw [World.cell?_of_block (hc.block (a.add i).block (by rw [hb]; exact hl) (by rw [hb]; intro hm; rcases hM _ hm with e | e <;> omega))]
 exact hcell
theorem RowsMap.chg {M : Nat → Prop} {H : Nat} {w w' : World} {b m : Nat} {G : Int → Option (List Int)} (h : RowsMap H w b m G) (hc : Chg M w w') (hM : ∀ k, M k → k < H ∨ w.heap.size ≤ k) : RowsMap H w' b m G := by
 obtain ⟨n, F, h1, h2, h3, h4, h5⟩ := h
 refine ⟨n, F, h1, h2, h3.block (hc.block b h3.lt (fun hm => by have := h3.lt; rcases hM b hm with e | e <;> omega)), h4, fun c l hcl => ?_⟩
 obtain ⟨A, cap, h6, h7, h8⟩ := h5 c l hcl
 exact ⟨A, cap, h6, ints_chg h7 h8 hc hM, h8⟩
theorem RowsMap.up {H : Nat} {w w' : World} {b m : Nat} {G : Int → Option (List Int)} (h : RowsMap H w b m G) (hu : Up w w') : RowsMap H w' b m G := h.chg (M := fun _ => False) (Chg.of_up hu) (fun _ h => h.elim)
theorem grown_map {w : World} {k : TypeId} {b n : Nat} {F : Value → Option Value} (h : MapIs Tryz.prog k w b n F) {A : Option Addr} {l : List Int} (hi : Ints .i32 w A l) {w' : World} (hg : w.grownBy w' (some b)) : Ints .i32 w' A l := by
 obtain ⟨es, clock, hb, _⟩ := h
 intro i v hv
 obtain ⟨a, ha, hcell⟩ := hi i v hv
 refine ⟨a, ha, ?_⟩
 have hl := cell_lt hcell
 have hne : (a.add i).block ≠ b := fun e => by
  unfold World.cell? at hcell
  rw [e, hb] at hcell
  cases hcell
 rw [World.cell?_of_block (hg.block _ hl (fun e => hne (by simpa using e)))]
 exact hcell
theorem RowsMap.other {H : Nat} {w w' : World} {b m b' : Nat} {G : Int → Option (List Int)} {k : TypeId} {n' : Nat} {F' : Value → Option Value} (h : RowsMap H w b m G) (hm : MapIs Tryz.prog k w b' n' F') (hne : b ≠ b') (hg : w.grownBy w' (some b')) : RowsMap H w' b m G := by
 obtain ⟨n, F, h1, h2, h3, h4, h5⟩ := h
 refine ⟨n, F, h1, h2, h3.grown hg (fun e => hne (by simpa using e)), h4, fun c l hcl => ?_⟩
 obtain ⟨A, cap, h6, h7, h8⟩ := h5 c l hcl
 exact ⟨A, cap, h6, grown_map hm h7 hg, h8⟩
def putG {β : Type} (G : Int → Option β) (c : Int) (l : β) : Int → Option β := fun d => if d = c then some l else G d
theorem i32V_inj {a b : Int} (h : Value.int .i32 a = Value.int .i32 b) : a = b := by injection h
theorem wpList_storeRow (w : World) {ops : Array Oper} {rest : List Oper} {o : Oper} {a : Act} {Q : Exit → Act → World → Prop}
 (hg : o.guard = none) (m x v : Operand) (t : TypeId) (hop : o.op = Op.mapUpdate t m x v) (e : TypeId) (ht : Tryz.prog.underlying t = some (.map 21 e)) (H b q : Nat) (G : Int → Option (List Int))
 (hm : a.eval m = .map (some b)) (hmap : RowsMap H w b q G) (hq : q < maxLen) (c : Int) (hwf : (Lit.int .i32 c).wf = true) (hx : a.eval x = .int .i32 c) (A : Option Addr) (l : List Int) (cap : Nat) (hv : a.eval v = .slice A l.length cap)
 (hl : Ints .i32 w A l) (hA : ∀ a, A = some a → H ≤ a.block)
 (hK : ∀ w', RowsMap H w' b (q + 1) (putG G c l) → w.grownBy w' (some b) → (∃ n F, MapIs Tryz.prog 21 w b n F) → wpList Tryz.prog ops Q rest (a.put o.dst undef) w') : wpList Tryz.prog ops Q (o :: rest) a w := by
 obtain ⟨n, F, h1, h2, h3, h4, h5⟩ := hmap
 refine wpList_store w hg m x v t hop 21 e (Go.Maps.int_keyed Tryz.underlying21) ht b n F hm h3 (by omega) (.int .i32 c) _ hx hv (key_int .i32 c _ Tryz.underlying21 hwf) fun w' h' hgr => ?_
 refine hK w' ⟨n + 1, _, by omega, h2, h', fun d hd => ?_, fun d l' hd => ?_⟩ hgr ⟨n, F, h3⟩
 ·unfold putG at hd
  split at hd
  ·cases hd
  ·rename_i hne
   rw [putF_other _ _ _ _ (fun e => hne (i32V_inj e))]
   exact h4 d hd
 ·unfold putG at hd
  split at hd
  ·rename_i he
   subst he
   cases hd
   exact ⟨A, cap, putF_same _ _ _, grown_map h3 hl hgr, hA⟩
  ·rename_i hne
   obtain ⟨A', cap', h6, h7, h8⟩ := h5 d l' hd
   exact ⟨A', cap', by rw [putF_other _ _ _ _ (fun e => hne (i32V_inj e))]; exact h6, grown_map h3 h7 hgr, h8⟩
def ValMap {κ : Type} (k : TypeId) (key : κ → Value) (H : Nat) (w : World) (b m : Nat) (G : κ → Option Value) : Prop :=
 ∃ n F, n ≤ m ∧ H ≤ b ∧ MapIs Tryz.prog k w b n F ∧ ∀ c, F (key c) = G c
section
variable {κ : Type} {k : TypeId} {key : κ → Value} {H : Nat} {w : World} {b m : Nat} {G : κ → Option Value}
theorem ValMap.lt (h : ValMap k key H w b m G) : b < w.heap.size := by
 obtain ⟨n, F, _, _, h3, _⟩ := h
 exact h3.lt
theorem ValMap.le (h : ValMap k key H w b m G) : H ≤ b := by
 obtain ⟨n, F, _, h2, _⟩ := h
 exact h2
theorem ValMap.mono {m' : Nat} (h : ValMap k key H w b m G) (hm : m ≤ m') : ValMap k key H w b m' G := by
 obtain ⟨n, F, h1, r⟩ := h
 exact ⟨n, F, Nat.le_trans h1 hm, r⟩
theorem ValMap.congr {G' : κ → Option Value} (h : ValMap k key H w b m G) (hG : ∀ c, G c = G' c) : ValMap k key H w b m G' := by
 have : G = G' := funext hG
 rwa [← this]
theorem ValMap.made (w : World) (hH : H ≤ w.heap.size) : ValMap k key H (w.alloc (.map #[] 0)) w.heap.size 0 (fun _ => none) :=
 ⟨0, _, Nat.le_refl _, hH, MapIs.made _ _ _, fun _ => rfl⟩
theorem ValMap.chg {M : Nat → Prop} {w' : World} (h : ValMap k key H w b m G) (hc : Chg M w w') (hM : ∀ k, M k → k < H ∨ w.heap.size ≤ k) : ValMap k key H w' b m G := by
 obtain ⟨n, F, h1, h2, h3, h4⟩ := h
 exact ⟨n, F, h1, h2, h3.block (hc.block b h3.lt (fun hm => by have := h3.lt; rcases hM b hm with e | e <;> omega)), h4⟩
theorem ValMap.block {w' : World} (h : ValMap k key H w b m G) (hb : w'.heap[b]? = w.heap[b]?) : ValMap k key H w' b m G := by
 obtain ⟨n, F, h1, h2, h3, h4⟩ := h
 exact ⟨n, F, h1, h2, h3.block hb, h4⟩
theorem ValMap.up {w' : World} (h : ValMap k key H w b m G) (hu : Up w w') : ValMap k key H w' b m G := h.chg (M := fun _ => False) (Chg.of_up hu) (fun _ h => h.elim)
theorem ValMap.grown {w' : World} {b' : Option Nat} (h : ValMap k key H w b m G) (hg : w.grownBy w' b') (hne : b' ≠ some b) : ValMap k key H w' b m G := by
 obtain ⟨n, F, h1, h2, h3, h4⟩ := h
 exact ⟨n, F, h1, h2, h3.grown hg (fun e => hne e.symm), h4⟩
theorem ValMap.map (h : ValMap k key H w b m G) : ∃ n F, MapIs Tryz.prog k w b n F := by
 obtain ⟨n, F, _, _, h3, _⟩ := h
 exact ⟨n, F, h3⟩
theorem RowsMap.map {G : Int → Option (List Int)} (h : RowsMap H w b m G) : ∃ n F, MapIs Tryz.prog 21 w b n F := by
 obtain ⟨n, F, _, _, h3, _⟩ := h
 exact ⟨n, F, h3⟩
end
noncomputable def putV {κ : Type} (G : κ → Option Value) (c : κ) (v : Value) : κ → Option Value := open Classical in fun d => if d = c then some v else G d
theorem wpList_storeVal {κ : Type} {key : κ → Value} (hinj : ∀ a b, key a = key b → a = b) (w : World) {ops : Array Oper} {rest : List Oper} {o : Oper} {a : Act} {Q : Exit → Act → World → Prop}
 (hg : o.guard = none) (m x v : Operand) (t : TypeId) (hop : o.op = Op.mapUpdate t m x v) (k e : TypeId) (K : Go.Maps.Keyed Tryz.prog k) (ht : Tryz.prog.underlying t = some (.map k e)) (H b q : Nat) (G : κ → Option Value)
 (hm : a.eval m = .map (some b)) (hmap : ValMap k key H w b q G) (hq : q < maxLen) (c : κ) (hk : KeyOk Tryz.prog k (key c)) (hx : a.eval x = key c) (val : Value) (hv : a.eval v = val)
 (hK : ∀ w', ValMap k key H w' b (q + 1) (putV G c val) → w.grownBy w' (some b) → (∃ n F, MapIs Tryz.prog k w b n F) → wpList Tryz.prog ops Q rest (a.put o.dst undef) w') : wpList Tryz.prog ops Q (o :: rest) a w := by
 obtain ⟨n, F, h1, h2, h3, h4⟩ := hmap
 refine wpList_store w hg m x v t hop k e K ht b n F hm h3 (by omega) (key c) val hx hv hk fun w' h' hgr => ?_
 refine hK w' ⟨n + 1, _, by omega, h2, h', fun d => ?_⟩ hgr ⟨n, F, h3⟩
 unfold putV
 split
 ·rename_i he
  subst he
  exact putF_same _ _ _
 ·rename_i hne
  rw [putF_other _ _ _ _ (fun e => hne (hinj _ _ e))]
  exact h4 d
theorem wpList_lookVal {κ : Type} {key : κ → Value} (w : World) {ops : Array Oper} {rest : List Oper} {o : Oper} {a : Act} {Q : Exit → Act → World → Prop}
 (hg : o.guard = none) (m x : Operand) (t : TypeId) (cm : Bool) (hop : o.op = Op.lookup t m x cm) (k e : TypeId) (K : Go.Maps.Keyed Tryz.prog k) (ht : Tryz.prog.underlying t = some (.map k e)) {z : Value} (hz : (zeroValue e).run Tryz.prog w = .ok z w) (H b q : Nat) (G : κ → Option Value)
 (hm : a.eval m = .map (some b)) (hmap : ValMap k key H w b q G) (c : κ) (hk : KeyOk Tryz.prog k (key c)) (hx : a.eval x = key c) (r : Value) (hr : (if cm then .tuple #[(G c).getD z, .bool (G c).isSome] else (G c).getD z) = r)
 (hK : wpList Tryz.prog ops Q rest (a.put o.dst r) w) : wpList Tryz.prog ops Q (o :: rest) a w := by
 obtain ⟨n, F, h1, h2, h3, h4⟩ := hmap
 refine wpList_look w hg m x t cm hop k e K ht hz b n F hm h3 (key c) hx hk r ?_ hK
 rw [h4]
 exact hr
theorem wpList_lookRow (w : World) {ops : Array Oper} {rest : List Oper} {o : Oper} {a : Act} {Q : Exit → Act → World → Prop}
 (hg : o.guard = none) (m x : Operand) (t : TypeId) (cm : Bool) (hop : o.op = Op.lookup t m x cm) (e : TypeId) (ht : Tryz.prog.underlying t = some (.map 21 e)) (hz : (zeroValue e).run Tryz.prog w = .ok nilS w) (H b q : Nat) (G : Int → Option (List Int))
 (hm : a.eval m = .map (some b)) (hmap : RowsMap H w b q G) (c : Int) (hwf : (Lit.int .i32 c).wf = true) (hx : a.eval x = .int .i32 c)
 (hK : ∀ A cap, Ints .i32 w A ((G c).getD []) → (∀ a, A = some a → H ≤ a.block) → wpList Tryz.prog ops Q rest (a.put o.dst (if cm then .tuple #[.slice A ((G c).getD []).length cap, .bool (G c).isSome] else .slice A ((G c).getD []).length cap)) w) : wpList Tryz.prog ops Q (o :: rest) a w := by
 obtain ⟨n, F, h1, h2, h3, h4, h5⟩ := hmap
 cases hG : G c with
 | none =>
   refine wpList_look w hg m x t cm hop 21 e (Go.Maps.int_keyed Tryz.underlying21) ht hz b n F hm h3 (.int .i32 c) hx (key_int .i32 c _ Tryz.underlying21 hwf) _ rfl ?_
   rw [h4 c hG]
   have := hK none 0
   rw [hG] at this
   exact this (Cells.nil _ _) (fun a h => by cases h)
 | some l =>
   obtain ⟨A, cap, h6, h7, h8⟩ := h5 c l hG
   refine wpList_look w hg m x t cm hop 21 e (Go.Maps.int_keyed Tryz.underlying21) ht hz b n F hm h3 (.int .i32 c) hx (key_int .i32 c _ Tryz.underlying21 hwf) _ rfl ?_
   rw [h6]
   have := hK A cap
   rw [hG] at this
   exact this h7 h8
theorem RowsMap.store {H : Nat} {w : World} {b q : Nat} {G : Int → Option (List Int)} (hmap : RowsMap H w b q G) (t e : TypeId) (ht : Tryz.prog.underlying t = some (.map 21 e)) (hq : q < maxLen) (c : Int) (hwf : (Lit.int .i32 c).wf = true) (A : Option Addr) (l : List Int) (cap : Nat)
 (hl : Ints .i32 w A l) (hA : ∀ a, A = some a → H ≤ a.block) :
 ∃ w', (Instr.mapUpdate t (.map (some b)) (.int .i32 c) (.slice A l.length cap)).run Tryz.prog w = .ok () w' ∧ RowsMap H w' b (q + 1) (putG G c l) ∧ w.grownBy w' (some b) := by
 obtain ⟨n, F, h1, h2, h3, h4, h5⟩ := hmap
 obtain ⟨w', hrun, h', hgr⟩ := h3.store (Go.Maps.int_keyed Tryz.underlying21) ht (show n < maxLen by omega) (x := .int .i32 c) (v := .slice A l.length cap) (key_int .i32 c _ Tryz.underlying21 hwf)
 refine ⟨w', hrun, ⟨n + 1, _, by omega, h2, h', fun d hd => ?_, fun d l' hd => ?_⟩, hgr⟩
 ·unfold putG at hd
  split at hd
  ·cases hd
  ·rename_i hne
   rw [putF_other _ _ _ _ (fun e => hne (i32V_inj e))]
   exact h4 d hd
 ·unfold putG at hd
  split at hd
  ·rename_i he
   subst he
   cases hd
   exact ⟨A, cap, putF_same _ _ _, grown_map h3 hl hgr, hA⟩
  ·rename_i hne
   obtain ⟨A', cap', h6, h7, h8⟩ := h5 d l' hd
   exact ⟨A', cap', by rw [putF_other _ _ _ _ (fun e => hne (i32V_inj e))]; exact h6, grown_map h3 h7 hgr, h8⟩
theorem ValMap.store {κ : Type} {key : κ → Value} (hinj : ∀ a b, key a = key b → a = b) {k : TypeId} {H : Nat} {w : World} {b q : Nat} {G : κ → Option Value} (hmap : ValMap k key H w b q G) (t e : TypeId) (K : Go.Maps.Keyed Tryz.prog k) (ht : Tryz.prog.underlying t = some (.map k e)) (hq : q < maxLen)
 (c : κ) (hk : KeyOk Tryz.prog k (key c)) (val : Value) :
 ∃ w', (Instr.mapUpdate t (.map (some b)) (key c) val).run Tryz.prog w = .ok () w' ∧ ValMap k key H w' b (q + 1) (putV G c val) ∧ w.grownBy w' (some b) := by
 obtain ⟨n, F, h1, h2, h3, h4⟩ := hmap
 obtain ⟨w', hrun, h', hgr⟩ := h3.store K ht (show n < maxLen by omega) (x := key c) (v := val) hk
 refine ⟨w', hrun, ⟨n + 1, _, by omega, h2, h', fun d => ?_⟩, hgr⟩
 unfold putV
 split
 ·rename_i he
  subst he
  exact putF_same _ _ _
 ·rename_i hne
  rw [putF_other _ _ _ _ (fun e => hne (hinj _ _ e))]
  exact h4 d
theorem ValMap.look {κ : Type} {key : κ → Value} {k : TypeId} {H : Nat} {w : World} {b q : Nat} {G : κ → Option Value} (hmap : ValMap k key H w b q G) (t e : TypeId) (K : Go.Maps.Keyed Tryz.prog k) (ht : Tryz.prog.underlying t = some (.map k e)) {z : Value} (hz : ∀ w, (zeroValue e).run Tryz.prog w = .ok z w)
 (c : κ) (hk : KeyOk Tryz.prog k (key c)) (cm : Bool) : (Instr.lookup t (.map (some b)) (key c) cm).run Tryz.prog w = .ok (if cm then .tuple #[(G c).getD z, .bool (G c).isSome] else (G c).getD z) w := by
 obtain ⟨n, F, h1, h2, h3, h4⟩ := hmap
 rw [h3.look K ht (hz w) hk cm, h4]
theorem RowsMap.look {H : Nat} {w : World} {b q : Nat} {G : Int → Option (List Int)} (hmap : RowsMap H w b q G) (t e : TypeId) (ht : Tryz.prog.underlying t = some (.map 21 e)) (hz : ∀ w, (zeroValue e).run Tryz.prog w = .ok nilS w) (c : Int) (hwf : (Lit.int .i32 c).wf = true) :
 ∃ A cap, Ints .i32 w A ((G c).getD []) ∧ (∀ a, A = some a → H ≤ a.block) ∧ ∀ cm, (Instr.lookup t (.map (some b)) (.int .i32 c) cm).run Tryz.prog w = .ok (if cm then .tuple #[.slice A ((G c).getD []).length cap, .bool (G c).isSome] else .slice A ((G c).getD []).length cap) w := by
 obtain ⟨n, F, h1, h2, h3, h4, h5⟩ := hmap
 have hk := key_int .i32 c _ Tryz.underlying21 hwf
 cases hG : G c with
 | none =>
   refine ⟨none, 0, Cells.nil _ _, fun a h => (by cases h), fun cm => ?_⟩
   rw [h3.look (Go.Maps.int_keyed Tryz.underlying21) ht (hz w) hk cm, h4 c hG]
   rfl
 | some l =>
   obtain ⟨A, cap, h6, h7, h8⟩ := h5 c l hG
   refine ⟨A, cap, h7, h8, fun cm => ?_⟩
   rw [h3.look (Go.Maps.int_keyed Tryz.underlying21) ht (hz w) hk cm, h6]
   rfl
end Go.Proofs.YtnohcnneflogjaaGreat.M
namespace Go.Proofs.YtnohcnneflogjaaGreat.M
open Go.RowKit Go.WideMaps
def pairK (p : Int × Int) : Value := pairV p.1 p.2
theorem pairK_inj (a b : Int × Int) (h : pairK a = pairK b) : a = b := by
 obtain ⟨h1, h2⟩ := pairV_inj.1 h
 exact Prod.ext h1 h2
theorem keyed_upair : Go.Maps.Keyed Tryz.prog 125 := Go.Maps.Keyed.of_law (deep_law_laid laidOut (m := 2) (by omega) (of_decide_eq_true (by kernel_rfl)) (by kernel_rfl) (by kernel_rfl))
theorem key_upair {a b : Int} (ha : (Lit.int .i32 a).wf = true) (hb : (Lit.int .i32 b).wf = true) : KeyOk Tryz.prog 125 (pairV a b) := by
 have hu := Tryz.underlying125
 have hc : Tryz.prog.cellsOf 125 = 2 := by kernel_rfl
 have hc1 : Tryz.prog.cellsOf 21 = 1 := by kernel_rfl
 obtain ⟨m, hm⟩ := types_succ
 have h1 := lits_leaf (P := Tryz.prog) m Tryz.underlying21 ha
 have h2 := lits_leaf (P := Tryz.prog) m Tryz.underlying21 hb
 refine keyOk_lits (ls := [.int .i32 a, .int .i32 b]) (by kernel_rfl) (by kernel_rfl) ?_ ?_
 ·simp [pairV, Value.formed, hu, hc]
 ·unfold Program.keyLits
  rw [hu, hm]
  simp [pairV, Value.cells, hc, hc1, h1, h2, List.mapM_cons]
theorem keyed_i32 : Go.Maps.Keyed Tryz.prog 21 := Go.Maps.int_keyed Tryz.underlying21
structure FormsAt (H : Nat) (w : World) (bo bf bl bc bs m : Nat) (Go Gf Gl : Int → Option (List Int)) (Gc : Int × Int → Option Value) (Gs : Int → Option Value) : Prop where
 opens : RowsMap H w bo m Go
 full : RowsMap H w bf m Gf
 looks : RowsMap H w bl m Gl
 comp : ValMap 125 pairK H w bc m Gc
 sec : ValMap 21 (Value.int .i32) H w bs m Gs
 ne : bo < bf ∧ bf < bl ∧ bl < bc ∧ bc < bs
section
variable {H : Nat} {w : World} {bo bf bl bc bs m : Nat} {Go Gf Gl : Int → Option (List Int)} {Gc : Int × Int → Option Value} {Gs : Int → Option Value}
theorem FormsAt.chg {M : Nat → Prop} {w' : World} (h : FormsAt H w bo bf bl bc bs m Go Gf Gl Gc Gs) (hc : Chg M w w') (hM : ∀ k, M k → k < H ∨ w.heap.size ≤ k) : FormsAt H w' bo bf bl bc bs m Go Gf Gl Gc Gs :=
 ⟨h.opens.chg hc hM, h.full.chg hc hM, h.looks.chg hc hM, h.comp.chg hc hM, h.sec.chg hc hM, h.ne⟩
theorem FormsAt.up {w' : World} (h : FormsAt H w bo bf bl bc bs m Go Gf Gl Gc Gs) (hu : Up w w') : FormsAt H w' bo bf bl bc bs m Go Gf Gl Gc Gs := h.chg (M := fun _ => False) (Chg.of_up hu) (fun _ h => h.elim)
theorem FormsAt.mono {m' : Nat} (h : FormsAt H w bo bf bl bc bs m Go Gf Gl Gc Gs) (hm : m ≤ m') : FormsAt H w bo bf bl bc bs m' Go Gf Gl Gc Gs := ⟨h.opens.mono hm, h.full.mono hm, h.looks.mono hm, h.comp.mono hm, h.sec.mono hm, h.ne⟩
theorem FormsAt.congr {Go' Gf' Gl' : Int → Option (List Int)} {Gc' : Int × Int → Option Value} {Gs' : Int → Option Value} (h : FormsAt H w bo bf bl bc bs m Go Gf Gl Gc Gs) (h1 : ∀ c, Go c = Go' c) (h2 : ∀ c, Gf c = Gf' c) (h3 : ∀ c, Gl c = Gl' c) (h4 : ∀ c, Gc c = Gc' c) (h5 : ∀ c, Gs c = Gs' c) : FormsAt H w bo bf bl bc bs m Go' Gf' Gl' Gc' Gs' :=
 ⟨h.opens.congr h1, h.full.congr h2, h.looks.congr h3, h.comp.congr h4, h.sec.congr h5, h.ne⟩
theorem FormsAt.storeOpen (h : FormsAt H w bo bf bl bc bs m Go Gf Gl Gc Gs) (hq : m < maxLen) (c : Int) (hwf : (Lit.int .i32 c).wf = true) (A : Option Addr) (l : List Int) (cap : Nat) (hl : Ints .i32 w A l) (hA : ∀ a, A = some a → H ≤ a.block) :
 ∃ w', (Instr.mapUpdate 43 (.map (some bo)) (.int .i32 c) (.slice A l.length cap)).run Tryz.prog w = .ok () w' ∧ FormsAt H w' bo bf bl bc bs (m + 1) (putG Go c l) Gf Gl Gc Gs ∧ w.grownBy w' (some bo) := by
 obtain ⟨w', h1, h2, h3⟩ := h.opens.store 43 _ Tryz.underlying43 hq c hwf A l cap hl hA
 obtain ⟨n, F, hm⟩ := h.opens.map
 have := h.ne
 exact ⟨w', h1, ⟨h2, (h.full.other hm (by omega) h3).mono (by omega), (h.looks.other hm (by omega) h3).mono (by omega), (h.comp.grown h3 (by simp; omega)).mono (by omega), (h.sec.grown h3 (by simp; omega)).mono (by omega), h.ne⟩, h3⟩
theorem FormsAt.storeFull (h : FormsAt H w bo bf bl bc bs m Go Gf Gl Gc Gs) (hq : m < maxLen) (c : Int) (hwf : (Lit.int .i32 c).wf = true) (A : Option Addr) (l : List Int) (cap : Nat) (hl : Ints .i32 w A l) (hA : ∀ a, A = some a → H ≤ a.block) :
 ∃ w', (Instr.mapUpdate 43 (.map (some bf)) (.int .i32 c) (.slice A l.length cap)).run Tryz.prog w = .ok () w' ∧ FormsAt H w' bo bf bl bc bs (m + 1) Go (putG Gf c l) Gl Gc Gs ∧ w.grownBy w' (some bf) := by
 obtain ⟨w', h1, h2, h3⟩ := h.full.store 43 _ Tryz.underlying43 hq c hwf A l cap hl hA
 obtain ⟨n, F, hm⟩ := h.full.map
 have := h.ne
 exact ⟨w', h1, ⟨(h.opens.other hm (by omega) h3).mono (by omega), h2, (h.looks.other hm (by omega) h3).mono (by omega), (h.comp.grown h3 (by simp; omega)).mono (by omega), (h.sec.grown h3 (by simp; omega)).mono (by omega), h.ne⟩, h3⟩
theorem FormsAt.storeLooks (h : FormsAt H w bo bf bl bc bs m Go Gf Gl Gc Gs) (hq : m < maxLen) (c : Int) (hwf : (Lit.int .i32 c).wf = true) (A : Option Addr) (l : List Int) (cap : Nat) (hl : Ints .i32 w A l) (hA : ∀ a, A = some a → H ≤ a.block) :
 ∃ w', (Instr.mapUpdate 43 (.map (some bl)) (.int .i32 c) (.slice A l.length cap)).run Tryz.prog w = .ok () w' ∧ FormsAt H w' bo bf bl bc bs (m + 1) Go Gf (putG Gl c l) Gc Gs ∧ w.grownBy w' (some bl) := by
 obtain ⟨w', h1, h2, h3⟩ := h.looks.store 43 _ Tryz.underlying43 hq c hwf A l cap hl hA
 obtain ⟨n, F, hm⟩ := h.looks.map
 have := h.ne
 exact ⟨w', h1, ⟨(h.opens.other hm (by omega) h3).mono (by omega), (h.full.other hm (by omega) h3).mono (by omega), h2, (h.comp.grown h3 (by simp; omega)).mono (by omega), (h.sec.grown h3 (by simp; omega)).mono (by omega), h.ne⟩, h3⟩
theorem FormsAt.storeComp (h : FormsAt H w bo bf bl bc bs m Go Gf Gl Gc Gs) (hq : m < maxLen) (a b : Int) (ha : (Lit.int .i32 a).wf = true) (hb : (Lit.int .i32 b).wf = true) (v : Value) :
 ∃ w', (Instr.mapUpdate 44 (.map (some bc)) (.agg #[.int .i32 a, .int .i32 b]) v).run Tryz.prog w = .ok () w' ∧ FormsAt H w' bo bf bl bc bs (m + 1) Go Gf Gl (putV Gc (a, b) v) Gs ∧ w.grownBy w' (some bc) := by
 obtain ⟨w', h1, h2, h3⟩ := h.comp.store pairK_inj 44 _ keyed_upair Tryz.underlying44 hq (a, b) (key_upair ha hb) v
 obtain ⟨n, F, hm⟩ := h.comp.map
 have := h.ne
 exact ⟨w', h1, ⟨(h.opens.other hm (by omega) h3).mono (by omega), (h.full.other hm (by omega) h3).mono (by omega), (h.looks.other hm (by omega) h3).mono (by omega), h2, (h.sec.grown h3 (by simp; omega)).mono (by omega), h.ne⟩, h3⟩
theorem FormsAt.storeSec (h : FormsAt H w bo bf bl bc bs m Go Gf Gl Gc Gs) (hq : m < maxLen) (c : Int) (hc : (Lit.int .i32 c).wf = true) (v : Value) :
 ∃ w', (Instr.mapUpdate 45 (.map (some bs)) (.int .i32 c) v).run Tryz.prog w = .ok () w' ∧ FormsAt H w' bo bf bl bc bs (m + 1) Go Gf Gl Gc (putV Gs c v) ∧ w.grownBy w' (some bs) := by
 obtain ⟨w', h1, h2, h3⟩ := h.sec.store (fun _ _ => i32V_inj) 45 _ keyed_i32 Tryz.underlying45 hq c (key_int .i32 c _ Tryz.underlying21 hc) v
 obtain ⟨n, F, hm⟩ := h.sec.map
 have := h.ne
 exact ⟨w', h1, ⟨(h.opens.other hm (by omega) h3).mono (by omega), (h.full.other hm (by omega) h3).mono (by omega), (h.looks.other hm (by omega) h3).mono (by omega), (h.comp.grown h3 (by simp; omega)).mono (by omega), h2, h.ne⟩, h3⟩
end
abbrev FormsP (H : Nat) (w : World) (bo bf bl bc bs m : Nat) (T P : List Rec) : Prop := FormsAt H w bo bf bl bc bs m (rowG P 3 (·.to)) (rowG P 3 (fun x => fullL T x.lo)) (rowG P 8 (·.to)) (compG P) (secG P)
def formsO (bo bf bl bc bs : Nat) : Obj := .cells #[.map (some bo), .map (some bf), .map (some bl), .map (some bc), .map (some bs)] 47 (0, 0)
def formsO0 : Obj := .cells #[.map none, .map none, .map none, .map none, .map none] 47 (0, 0)
def formsW0 (w : World) (bo bf bl bc bs : Nat) : World := ((((((w.alloc formsO0).alloc (.map #[] 0)).alloc (.map #[] 0)).alloc (.map #[] 0)).alloc (.map #[] 0)).alloc (.map #[] 0)).alloc (formsO bo bf bl bc bs)
theorem formsW0_ok (w : World) (bo bf bl bc bs gf : Nat) (e1 : w.heap.size + 1 = bo) (e2 : bo + 1 = bf) (e3 : bf + 1 = bl) (e4 : bl + 1 = bc) (e5 : bc + 1 = bs) (e6 : bs + 1 = gf) (T : List Rec) :
 Up w (formsW0 w bo bf bl bc bs) ∧ (formsW0 w bo bf bl bc bs).heap[w.heap.size]? = some formsO0 ∧ (formsW0 w bo bf bl bc bs).heap[gf]? = some (formsO bo bf bl bc bs) ∧ FormsP (w.heap.size + 1) (formsW0 w bo bf bl bc bs) bo bf bl bc bs 0 T [] := by
 unfold formsW0
 generalize hw1 : w.alloc formsO0 = w1
 have s1 : w1.heap.size = bo := by rw [← hw1, ← e1]; simp
 have u1 : Up w w1 := by rw [← hw1]; exact up_alloc (up_refl _) _
 have b1 : w1.heap[w.heap.size]? = some formsO0 := by rw [← hw1]; exact heap_alloc_new w _
 have m1 := RowsMap.made (H := w.heap.size + 1) w1 (by omega)
 generalize hw2 : w1.alloc (.map #[] 0) = w2 at *
 have s2 : w2.heap.size = bf := by rw [← hw2, ← e2, ← s1]; simp
 have u2 : Up w1 w2 := by rw [← hw2]; exact up_alloc (up_refl _) _
 have m2 := RowsMap.made (H := w.heap.size + 1) w2 (by omega)
 generalize hw3 : w2.alloc (.map #[] 0) = w3 at *
 have s3 : w3.heap.size = bl := by rw [← hw3, ← e3, ← s2]; simp
 have u3 : Up w2 w3 := by rw [← hw3]; exact up_alloc (up_refl _) _
 have m3 := RowsMap.made (H := w.heap.size + 1) w3 (by omega)
 generalize hw4 : w3.alloc (.map #[] 0) = w4 at *
 have s4 : w4.heap.size = bc := by rw [← hw4, ← e4, ← s3]; simp
 have u4 : Up w3 w4 := by rw [← hw4]; exact up_alloc (up_refl _) _
 have m4 := ValMap.made (k := 125) (key := pairK) (H := w.heap.size + 1) w4 (by omega)
 generalize hw5 : w4.alloc (.map #[] 0) = w5 at *
 have s5 : w5.heap.size = bs := by rw [← hw5, ← e5, ← s4]; simp
 have u5 : Up w4 w5 := by rw [← hw5]; exact up_alloc (up_refl _) _
 have m5 := ValMap.made (k := 21) (key := Value.int .i32) (H := w.heap.size + 1) w5 (by omega)
 generalize hw6 : w5.alloc (.map #[] 0) = w6 at *
 have s6 : w6.heap.size = gf := by rw [← hw6, ← e6, ← s5]; simp
 have u6 : Up w5 w6 := by rw [← hw6]; exact up_alloc (up_refl _) _
 have u7 : Up w6 (w6.alloc (formsO bo bf bl bc bs)) := up_alloc (up_refl _) _
 have b7 := heap_alloc_new w6 (formsO bo bf bl bc bs)
 rw [s6] at b7
 generalize w6.alloc (formsO bo bf bl bc bs) = w7 at *
 rw [s1] at m1
 rw [s2] at m2
 rw [s3] at m3
 rw [s4] at m4
 rw [s5] at m5
 have u67 := up_trans u6 u7
 have u57 := up_trans u5 u67
 have u47 := up_trans u4 u57
 have u37 := up_trans u3 u47
 refine ⟨up_trans u1 (up_trans u2 u37), ?_, b7, ⟨(m1.up u37).congr (fun _ => rfl), (m2.up u47).congr (fun _ => rfl), (m3.up u57).congr (fun _ => rfl), (m4.up u67).congr (fun _ => rfl), (m5.up u7).congr (fun _ => rfl), by omega⟩⟩
 rw [(up_trans u2 u37).block _ (by omega)]
 exact b1
end Go.Proofs.YtnohcnneflogjaaGreat.M
