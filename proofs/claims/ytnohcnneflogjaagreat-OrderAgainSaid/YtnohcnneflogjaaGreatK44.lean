/- The document's Table, walked: Mapping, Script. -/
import Derived.Test.YtnohcnneflogjaaGreatK37
import Derived.Test.YtnohcnneflogjaaGreatK38
import Derived.Test.YtnohcnneflogjaaGreatK39
import Derived.Test.YtnohcnneflogjaaGreatK08
set_option linter.unusedVariables false
set_option linter.unusedSimpArgs false
namespace Go.Proofs.YtnohcnneflogjaaGreat.M
open Go.RowKit
set_option maxHeartbeats 8000000
set_option maxRecDepth 100000
end Go.Proofs.YtnohcnneflogjaaGreat.M
namespace Go.Proofs.YtnohcnneflogjaaGreat.M
open Go.RowKit
set_option maxHeartbeats 8000000
set_option maxRecDepth 100000
theorem TOpen_calls (A : Option Addr) (c : Nat) (T : List Rec) (d : Int) (w : World) (hT : Table w A T) (hR : ∀ x ∈ T, Right x) (hW : ∀ x ∈ T, x.Wf) (hl : T.length ≤ 4096) (hd1 : -2147483648 ≤ d) (hd2 : d ≤ 2147483647) (r : List Int) (hr : openF T d = r) :
 Calls Tryz.prog 95 #[.slice A T.length c, .int .i32 d] w (RetRow r w) := by
 subst hr
 have HC := Aside0.mk (ROpen_calls A c T d w hT hR hW hl hd1 hd2)
 clear hT hR hW
 go_enter Tryz.func95, Tryz.ntmps95
 go_wp2_with (first | (go_at_call 138; (with_reducible refine (HC.out).mono ?_); rintro e w1 ⟨v1, rfl, hown1, hup1⟩))
 go_ret
 exact ⟨v1, rfl, hown1, hup1⟩
theorem TFull_calls (A : Option Addr) (c : Nat) (T : List Rec) (d : Int) (w : World) (hT : Table w A T) (hR : ∀ x ∈ T, Right x) (hW : ∀ x ∈ T, x.Wf) (hl : T.length ≤ 4096) (hd1 : -2147483648 ≤ d) (hd2 : d ≤ 2147483647) (hF : Fine T) (r : List Int) (hr : fullL T d = r) :
 Calls Tryz.prog 30 #[.slice A T.length c, .int .i32 d] w (RetRow r w) := by
 have hc := RFull_calls A c T d w hT hR hW hl hd1 hd2
 rw [hF.full d, hr] at hc
 have HC : Aside0 (Calls Tryz.prog 81 #[.slice A T.length c, .int .i32 d] w fun e w' => ∃ v, e = .returned (.tuple #[v, .int .i64 0]) ∧ w'.ownsRow w.heap.size 21 1 v r.length (r.map (Value.int .i32)) ∧ Up w w') := ⟨hc.mono fun e w' h => by obtain ⟨v, h1, h2, h3, _⟩ := h; exact ⟨v, h1, h2, h3⟩⟩
 clear hT hR hW hc hr hF
 go_enter Tryz.func30, Tryz.ntmps30
 go_wp2_with (first | (go_at_call 81; (with_reducible refine (HC.out).mono ?_); rintro e w1 ⟨v1, rfl, hown1, hup1⟩))
 go_ret
 exact ⟨v1, rfl, hown1, hup1⟩
theorem pair_to {x : Rec} (hR : Right x) (hk : x.kind = 7) : x.to.length = 2 := by
 have hf := hR.fits
 unfold fitsB at hf
 simp [hk, listB] at hf
 omega
theorem any_step (p : Rec → Bool) (T : List Rec) (i : Nat) (x : Rec) (h : T[i]? = some x) : (T.drop i).any p = (p x || (T.drop (i + 1)).any p) := by
 have hi := (List.getElem?_eq_some_iff.1 h).1
 rw [List.drop_eq_getElem_cons hi, List.any_cons, (List.getElem?_eq_some_iff.1 h).2]
theorem mref3_2 {p : Prop} (h : p := by
 go_enter Tryz.func139, Tryz.ntmps139
 go_wp2_with (first | (go_at_call 152; (with_reducible refine (Rjv_calls d _ _ HJV.out).mono ?_); rintro e w1 ⟨rfl, rfl⟩) | (go_at_call 154; (with_reducible refine (Rjt_calls d _ _ HJT.out).mono ?_); rintro e w1 ⟨rfl, rfl⟩))
 go_ret
 exact ⟨rfl, up_refl _⟩) : p := h
theorem RSecond7_calls (A : Option Addr) (c : Nat) (T : List Rec) (d : Int) (w : World) (hT : Table w A T) (hR : ∀ x ∈ T, Right x) (hW : ∀ x ∈ T, x.Wf) (hl : T.length ≤ 4096) (hd1 : -2147483648 ≤ d) (hd2 : d ≤ 2147483647) (r : Bool) (hr : secondF T d = r) :
 Calls Tryz.prog 139 #[.slice A T.length c, .int .i32 d] w fun e w' => e = .returned (.bool r) ∧ Up w w' := by
 have hu96 := Tryz.underlying113
 have HT := Aside0.mk hT
 have HR := Aside0.mk hR
 unfold secondF at hr
 cases hj : jv d with
 | true =>
   have HJV := Aside0.mk hj
   have hr' : true = r := by rw [← hr, hj]; rfl
   subst hr'
   clear hT hR hW hr hj
   exact mref3_2
 | false =>
   cases ht : jt d with
   | true =>
     have HJV := Aside0.mk hj
     have HJT := Aside0.mk ht
     have hr' : true = r := by rw [← hr, hj, ht]; rfl
     subst hr'
     clear hT hR hW hr hj ht
     exact mref3_2
   | false =>
     have HJV := Aside0.mk hj
     have HJT := Aside0.mk ht
     have hr' : T.any (fun x => decide (x.kind = 7) && decide (rd x.to 1 = d)) = r := by rw [← hr, hj, ht]; rfl
     have HR2 := Aside0.mk hr'
     have HLT := Aside0.mk hl
     clear hT hR hW hr hj ht hr'
     go_enter Tryz.func139, Tryz.ntmps139
     go_wp2_with (first | (go_at_call 152; (with_reducible refine (Rjv_calls d _ _ HJV.out).mono ?_); rintro e w1 ⟨rfl, rfl⟩) | (go_at_call 154; (with_reducible refine (Rjt_calls d _ _ HJT.out).mono ?_); rintro e w1 ⟨rfl, rfl⟩))
     go_loopg [5] T.length (fun k v5 w' => ∃ i : Nat, v5 = .int .i64 i ∧ Aside0 (i + k = T.length ∧ (T.drop i).any (fun x => decide (x.kind = 7) && decide (rd x.to 1 = d)) = r) ∧ Aside0 (Up w w'))
     case atStart => exact ⟨0, rfl, ⟨Nat.zero_add _, HR2.out⟩, ⟨up_refl _⟩⟩
     case round =>
      obtain ⟨i, rfl, HN, HB⟩ := hrel
      cases gk with
      | zero =>
        have hlt : decide ((i : Int) < (T.length : Int)) = false := decide_eq_false (by have := HN.out; omega)
        have hlt1 : ¬ (i < T.length) := by have := HN.out; omega
        have hr := HN.out.2
        rw [List.drop_of_length_le (by omega)] at hr
        have hr : false = r := hr
        subst hr
        go_wp2
        go_ret
        exact ⟨rfl, HB.out⟩
      | succ k =>
        have hlt : decide ((i : Int) < (T.length : Int)) = true := decide_eq_true (by have := HN.out; omega)
        have hlt1 : i < T.length := by have := HN.out; omega
        have hll := HLT.out
        have p1 : 0 ≤ (i : Int) := by omega
        have p2 : (i : Int) < (T.length : Int) := by omega
        have hx : T[i]? = some T[i] := List.getElem?_eq_getElem hlt1
        obtain ⟨x, hxx⟩ : ∃ x, T[i]'hlt1 = x := ⟨_, rfl⟩
        rw [hxx] at hx
        have hr := HN.out.2
        rw [any_step _ T i x hx] at hr
        have hRx := HR.out x (List.mem_of_getElem? hx)
        obtain ⟨ad, hA, A', c', hrec, hto⟩ := HT.out i x hx
        subst hA
        obtain ⟨g0, g1, g2, g3, g4, g5, g6, g7⟩ := hrec.up HB.out
        have HTO := Aside0.mk (hto.up HB.out)
        clear hxx hx hrec hto
        by_cases hk : x.kind = 7
        ·have e7 : (x.kind == 7) = true := beq_iff_eq.mpr hk
         have hlen := (pair_to hRx hk)
         have h2 := pair_of hlen
         obtain ⟨ai, hai, hc1⟩ := HTO.out 1 (.int .i32 (rd x.to 1)) (by rw [h2]; rfl)
         subst hai
         obtain ⟨b, hb⟩ : ∃ b, rd x.to 1 = b := ⟨_, rfl⟩
         rw [hb] at hc1
         have hc1 : wr.cell? ⟨ai.block, ai.off + 1, none⟩ = some (.int .i32 b) := hc1
         rw [hlen] at g4
         have hr2 : (decide (b = d) || (T.drop (i + 1)).any (fun x => decide (x.kind = 7) && decide (rd x.to 1 = d))) = r := by rw [← hr, hk, hb]; rfl
         clear h2 hb hlen hr
         by_cases hbd : b = d
         ·have e1 : (b == d) = true := beq_iff_eq.mpr hbd
          have hr3 : true = r := by rw [← hr2, decide_eq_true hbd]; rfl
          subst hr3
          clear hbd hk hr2
          go_wp2
          go_ret
          exact ⟨rfl, HB.out⟩
         ·have e1 : (b == d) = false := beq_eq_false_iff_ne.mpr hbd
          have HR3 : Aside0 ((T.drop (i + 1)).any (fun x => decide (x.kind = 7) && decide (rd x.to 1 = d)) = r) := ⟨by rw [← hr2, decide_eq_false hbd]; rfl⟩
          clear hbd hk hr2
          go_wp2
          go_roundg k
          case measure => have := HN.out; omega
          case rel => exact ⟨i + 1, rfl, ⟨by have := HN.out; omega, HR3.out⟩, HB⟩
        ·have e7 : (x.kind == 7) = false := beq_eq_false_iff_ne.mpr hk
         have HR3 : Aside0 ((T.drop (i + 1)).any (fun x => decide (x.kind = 7) && decide (rd x.to 1 = d)) = r) := ⟨by rw [← hr, decide_eq_false hk]; rfl⟩
         clear hk hr
         go_wp2
         go_roundg k
         case measure => have := HN.out; omega
         case rel => exact ⟨i + 1, rfl, ⟨by have := HN.out; omega, HR3.out⟩, HB⟩
theorem TSecond_calls (A : Option Addr) (c : Nat) (T : List Rec) (d : Int) (w : World) (hT : Table w A T) (hR : ∀ x ∈ T, Right x) (hW : ∀ x ∈ T, x.Wf) (hl : T.length ≤ 4096) (hd1 : -2147483648 ≤ d) (hd2 : d ≤ 2147483647) (r : Bool) (hr : secondF T d = r) :
 Calls Tryz.prog 97 #[.slice A T.length c, .int .i32 d] w fun e w' => e = .returned (.bool r) ∧ Up w w' := by
 have HC := Aside0.mk (RSecond7_calls A c T d w hT hR hW hl hd1 hd2 r hr)
 clear hT hR hW hr
 go_enter Tryz.func97, Tryz.ntmps97
 go_wp2_with (first | (go_at_call 139; (with_reducible refine (HC.out).mono ?_); rintro e w1 ⟨rfl, hup1⟩))
 go_ret
 exact ⟨rfl, hup1⟩
def foundP (F : Option Rec) : Int × Bool := match F with | some x => (x.lo, true) | none => (0, false)
theorem find_step (p : Rec → Bool) (T : List Rec) (i : Nat) (x : Rec) (h : T[i]? = some x) : (T.drop i).find? p = if p x then some x else (T.drop (i + 1)).find? p := by
 have hi := (List.getElem?_eq_some_iff.1 h).1
 rw [List.drop_eq_getElem_cons hi, (List.getElem?_eq_some_iff.1 h).2, List.find?_cons]
 cases p x <;> rfl
theorem mref3_1 {p : Prop} (h : p := by
 go_enter Tryz.func137, Tryz.ntmps137
 go_wp2_with (first | (go_at_call 151; (with_reducible refine (Rjl_calls a _ _ H1.out).mono ?_); rintro e w1 ⟨rfl, rfl⟩) | (go_at_call 152; (with_reducible refine (Rjv_calls b _ _ H2.out).mono ?_); rintro e w1 ⟨rfl, rfl⟩) | (go_at_call 153; (with_reducible refine (Syllable_calls a _ _ H3.out).mono ?_); rintro e w1 ⟨rfl, rfl⟩) | (go_at_call 154; (with_reducible refine (Rjt_calls b _ _ H4.out).mono ?_); rintro e w1 ⟨rfl, rfl⟩))
 go_loopg [8] T.length (fun k v8 w' => ∃ i : Nat, v8 = .int .i64 i ∧ Aside0 (i + k = T.length ∧ (T.drop i).find? (pairAt a b) = F) ∧ Aside0 (Up w w'))
 case atStart => exact ⟨0, rfl, ⟨Nat.zero_add _, HFF.out⟩, ⟨up_refl _⟩⟩
 case round =>
  obtain ⟨i, rfl, HN, HB⟩ := hrel
  cases gk with
  | zero =>
    have hlt : decide ((i : Int) < (T.length : Int)) = false := decide_eq_false (by have := HN.out; omega)
    have hlt1 : ¬ (i < T.length) := by have := HN.out; omega
    have hr := HN.out.2
    rw [List.drop_of_length_le (by omega)] at hr
    have hr : none = F := hr
    have hq := HRF.out
    rw [← hr] at hq
    have hq : ((0 : Int), false) = (p, ok) := hq
    injection hq with q1 q2
    subst q1
    subst q2
    clear hr
    go_wp2
    go_ret2
    exact ⟨rfl, HB.out⟩
  | succ k =>
    have hlt : decide ((i : Int) < (T.length : Int)) = true := decide_eq_true (by have := HN.out; omega)
    have hlt1 : i < T.length := by have := HN.out; omega
    have hll := HLT.out
    have p1 : 0 ≤ (i : Int) := by omega
    have p2 : (i : Int) < (T.length : Int) := by omega
    have hx : T[i]? = some T[i] := List.getElem?_eq_getElem hlt1
    obtain ⟨x, hxx⟩ : ∃ x, T[i]'hlt1 = x := ⟨_, rfl⟩
    rw [hxx] at hx
    have hr := HN.out.2
    rw [find_step _ T i x hx] at hr
    have hRx := HR.out x (List.mem_of_getElem? hx)
    obtain ⟨ad, hA, A', c', hrec, hto⟩ := HT.out i x hx
    subst hA
    obtain ⟨g0, g1, g2, g3, g4, g5, g6, g7⟩ := hrec.up HB.out
    have HTO := Aside0.mk (hto.up HB.out)
    clear hxx hx hrec hto
    by_cases hk : x.kind = 7
    ·have e7 : (x.kind == 7) = true := beq_iff_eq.mpr hk
     have hlen := (pair_to hRx hk)
     have h2 := pair_of hlen
     obtain ⟨ai, hai, hc1⟩ := HTO.out 1 (.int .i32 (rd x.to 1)) (by rw [h2]; rfl)
     obtain ⟨aj, haj, hc0⟩ := HTO.out 0 (.int .i32 (rd x.to 0)) (by rw [h2]; rfl)
     subst hai
     cases haj
     obtain ⟨t0, ht0⟩ : ∃ t0, rd x.to 0 = t0 := ⟨_, rfl⟩
     obtain ⟨t1, ht1⟩ : ∃ t1, rd x.to 1 = t1 := ⟨_, rfl⟩
     rw [ht1] at hc1
     rw [ht0] at hc0
     have hc1 : wr.cell? ⟨ai.block, ai.off + 1, none⟩ = some (.int .i32 t1) := hc1
     have hc0 : wr.cell? ai = some (.int .i32 t0) := hc0
     rw [hlen] at g4
     have hpa : pairAt a b x = (decide (t0 = a) && decide (t1 = b)) := by unfold pairAt; rw [hk, ht0, ht1]; rfl
     rw [hpa] at hr
     have hlo := hRx.low
     have hlo2 := hRx.oneOf (by omega)
     have hsp := hRx.span (by omega)
     have l1 : 0 ≤ x.lo := by omega
     have l2 : x.lo ≤ 1114111 := by omega
     clear h2 ht0 ht1 hlen hpa hlo hlo2 hsp
     by_cases h0 : t0 = a
     ·have e0 : (t0 == a) = true := beq_iff_eq.mpr h0
      by_cases h1 : t1 = b
      ·have e1 : (t1 == b) = true := beq_iff_eq.mpr h1
       rw [decide_eq_true h0, decide_eq_true h1] at hr
       have hr : some x = F := hr
       have hq := HRF.out
       rw [← hr] at hq
       have hq : (x.lo, true) = (p, ok) := hq
       injection hq with q1 q2
       subst q1
       subst q2
       clear h0 h1 hk hr
       go_wp2
       go_ret2
       exact ⟨rfl, HB.out⟩
      ·have e1 : (t1 == b) = false := beq_eq_false_iff_ne.mpr h1
       rw [decide_eq_false h1, Bool.and_false] at hr
       have HR3 : Aside0 ((T.drop (i + 1)).find? (pairAt a b) = F) := ⟨hr⟩
       clear h0 h1 hk hr
       go_wp2
       go_roundg k
       case measure => have := HN.out; omega
       case rel => exact ⟨i + 1, rfl, ⟨by have := HN.out; omega, HR3.out⟩, HB⟩
     ·have e0 : (t0 == a) = false := beq_eq_false_iff_ne.mpr h0
      rw [decide_eq_false h0, Bool.false_and] at hr
      have HR3 : Aside0 ((T.drop (i + 1)).find? (pairAt a b) = F) := ⟨hr⟩
      clear h0 hk hr
      go_wp2
      go_roundg k
      case measure => have := HN.out; omega
      case rel => exact ⟨i + 1, rfl, ⟨by have := HN.out; omega, HR3.out⟩, HB⟩
    ·have e7 : (x.kind == 7) = false := beq_eq_false_iff_ne.mpr hk
     have hpa : pairAt a b x = false := by unfold pairAt; rw [decide_eq_false hk]; rfl
     rw [hpa] at hr
     have HR3 : Aside0 ((T.drop (i + 1)).find? (pairAt a b) = F) := ⟨hr⟩
     clear hk hr hpa
     go_wp2
     go_roundg k
     case measure => have := HN.out; omega
     case rel => exact ⟨i + 1, rfl, ⟨by have := HN.out; omega, HR3.out⟩, HB⟩) : p := h
theorem RCompose7_calls (A : Option Addr) (c : Nat) (T : List Rec) (a b : Int) (w : World) (hT : Table w A T) (hR : ∀ x ∈ T, Right x) (hW : ∀ x ∈ T, x.Wf) (hl : T.length ≤ 4096) (ha1 : -2147483648 ≤ a) (ha2 : a ≤ 2147483647) (hb1 : -2147483648 ≤ b) (hb2 : b ≤ 2147483647) (p : Int) (ok : Bool) (hr : compF T a b = (p, ok)) :
 Calls Tryz.prog 137 #[.slice A T.length c, .int .i32 a, .int .i32 b] w fun e w' => e = .returned (.tuple #[.int .i32 p, .bool ok]) ∧ Up w w' := by
 have hu96 := Tryz.underlying113
 have HT := Aside0.mk hT
 have HR := Aside0.mk hR
 have HLT := Aside0.mk hl
 have HJ : ∀ x y, jl x = true → jv y = true → 4352 ≤ x ∧ x ≤ 4370 ∧ 4449 ≤ y ∧ y ≤ 4469 := fun x y h1 h2 => by simp [jl, jv] at h1 h2; omega
 by_cases hi : jl a = true ∧ jv b = true
 ·obtain ⟨h1, h2⟩ := hi
  have hc : compF T a b = (44032 + ((a - 4352) * 21 + b - 4449) * 28, true) := by unfold compF; rw [h1, h2]; rfl
  rw [hc] at hr
  injection hr with q1 q2
  subst q2
  obtain ⟨p1, p2, p3, p4⟩ := HJ a b h1 h2
  have H1 := Aside0.mk h1
  have H2 := Aside0.mk h2
  have HQ1 := Aside0.mk q1
  clear hc h1 h2 ha1 ha2 hb1 hb2 HJ hT hR hW hl q1
  go_enter Tryz.func137, Tryz.ntmps137
  go_wp2_with (first | (go_at_call 151; (with_reducible refine (Rjl_calls a _ _ H1.out).mono ?_); rintro e w1 ⟨rfl, rfl⟩) | (go_at_call 152; (with_reducible refine (Rjv_calls b _ _ H2.out).mono ?_); rintro e w1 ⟨rfl, rfl⟩) | (go_at_call 153; (with_reducible refine (Syllable_calls a _ _ H3.out).mono ?_); rintro e w1 ⟨rfl, rfl⟩) | (go_at_call 154; (with_reducible refine (Rjt_calls b _ _ H4.out).mono ?_); rintro e w1 ⟨rfl, rfl⟩))
  go_ret2
  refine ⟨?_, up_refl _⟩
  rw [← HQ1.out, show (44032 + ((a - 4352) * 21 + b - 4449) * 28 : Int) = 44032 + (21 * (a - 4352) + b - 4449) * 28 by omega]
  rfl
 have hI : (jl a && jv b) = false := by
  cases h1 : jl a <;> cases h2 : jv b <;> simp_all
 by_cases hii : syl a = true ∧ (a - 44032) % 28 = 0 ∧ jt b = true
 ·obtain ⟨h3, hr0, h4⟩ := hii
  have hc : compF T a b = (a + b - 4519, true) := by
   unfold compF
   rw [if_neg (by rw [hI]; decide), h3, h4, decide_eq_true hr0]
   rfl
  rw [hc] at hr
  injection hr with q1 q2
  subst q1
  subst q2
  have h1 : jl a = false := by simp [syl, jl] at *; omega
  have hs := syl_iff h3
  have p1 : 44032 ≤ a := hs.1
  have p2 : a ≤ 55203 := hs.2
  have hb : 4520 ≤ b ∧ b ≤ 4546 := by simpa [jt] using h4
  obtain ⟨p3, p4⟩ := hb
  have er : ((a - 44032) % 28 == 0) = true := beq_iff_eq.mpr hr0
  have H1 := Aside0.mk h1
  have H3 := Aside0.mk h3
  have H4 := Aside0.mk h4
  clear hc h1 h3 h4 hr0 hs ha1 ha2 hb1 hb2 HJ hI hi hT hR hW hl
  go_enter Tryz.func137, Tryz.ntmps137
  go_wp2_with (first | (go_at_call 151; (with_reducible refine (Rjl_calls a _ _ H1.out).mono ?_); rintro e w1 ⟨rfl, rfl⟩) | (go_at_call 152; (with_reducible refine (Rjv_calls b _ _ H2.out).mono ?_); rintro e w1 ⟨rfl, rfl⟩) | (go_at_call 153; (with_reducible refine (Syllable_calls a _ _ H3.out).mono ?_); rintro e w1 ⟨rfl, rfl⟩) | (go_at_call 154; (with_reducible refine (Rjt_calls b _ _ H4.out).mono ?_); rintro e w1 ⟨rfl, rfl⟩))
  go_ret2
  exact ⟨rfl, up_refl _⟩
 have hII : ((syl a && decide ((a - 44032) % 28 = 0)) && jt b) = false := by
  cases h3 : syl a <;> cases h4 : jt b <;> by_cases hr : (a - 44032) % 28 = 0 <;> simp_all
 obtain ⟨F, hF⟩ : ∃ F, T.find? (pairAt a b) = F := ⟨_, rfl⟩
 have HFF := Aside0.mk hF
 have HRF : Aside0 (foundP F = (p, ok)) := ⟨by
  rw [← hr, ← hF]
  unfold compF foundP
  rw [if_neg (by rw [hI]; decide), if_neg (by rw [hII]; decide)]
  cases T.find? (pairAt a b) <;> rfl⟩
 have hfirst : (jl a = true ∧ jv b = false) ∨ jl a = false := by
  cases h1 : jl a <;> cases h2 : jv b <;> simp_all
 have hsec : syl a = false ∨ (syl a = true ∧ ((a - 44032) % 28 == 0) = false) ∨ (syl a = true ∧ ((a - 44032) % 28 == 0) = true ∧ jt b = false) := by
  cases h3 : syl a <;> cases h4 : jt b <;> by_cases hr : (a - 44032) % 28 = 0 <;> simp_all
 clear hr hI hII hi hii HJ ha1 ha2 hb1 hb2 hF hT hR hW hl
 rcases hsec with h3 | ⟨h3, er⟩ | ⟨h3, er, h4⟩
 ·have H3 := Aside0.mk h3
  clear h3
  rcases hfirst with ⟨h1, h2⟩ | h1
  ·have H1 := Aside0.mk h1
   have H2 := Aside0.mk h2
   clear h1 h2
   exact mref3_1
  ·have H1 := Aside0.mk h1
   clear h1
   exact mref3_1
 ·have H3 := Aside0.mk h3
  have hs := syl_iff h3
  have p1 : 44032 ≤ a := hs.1
  have p2 : a ≤ 55203 := hs.2
  have h1 : jl a = false := by cases hh : jl a with | false => rfl | true => (simp [jl] at hh; omega)
  have H1 := Aside0.mk h1
  clear h3 hs h1 hfirst
  exact mref3_1
 ·have H3 := Aside0.mk h3
  have H4 := Aside0.mk h4
  have hs := syl_iff h3
  have p1 : 44032 ≤ a := hs.1
  have p2 : a ≤ 55203 := hs.2
  have h1 : jl a = false := by cases hh : jl a with | false => rfl | true => (simp [jl] at hh; omega)
  have H1 := Aside0.mk h1
  clear h3 hs h1 hfirst h4
  exact mref3_1
theorem TCompose_calls (A : Option Addr) (c : Nat) (T : List Rec) (a b : Int) (w : World) (hT : Table w A T) (hR : ∀ x ∈ T, Right x) (hW : ∀ x ∈ T, x.Wf) (hl : T.length ≤ 4096) (ha1 : -2147483648 ≤ a) (ha2 : a ≤ 2147483647) (hb1 : -2147483648 ≤ b) (hb2 : b ≤ 2147483647) (p : Int) (ok : Bool) (hr : compF T a b = (p, ok)) :
 Calls Tryz.prog 91 #[.slice A T.length c, .int .i32 a, .int .i32 b] w fun e w' => e = .returned (.tuple #[.int .i32 p, .bool ok]) ∧ Up w w' := by
 have HC := Aside0.mk (RCompose7_calls A c T a b w hT hR hW hl ha1 ha2 hb1 hb2 p ok hr)
 clear hT hR hW hr
 go_enter Tryz.func91, Tryz.ntmps91
 go_wp2_with (first | (go_at_call 137; (with_reducible refine (HC.out).mono ?_); rintro e w1 ⟨rfl, hup1⟩))
 go_ret2
 exact ⟨rfl, hup1⟩
end Go.Proofs.YtnohcnneflogjaaGreat.M
