/- The document's Table, walked: Open, Full, Looks, Second, Compose. (printed by mkref3.py) -/
import Derived.Test.YtnohcnneflogjaaGreatK39
import Derived.Test.YtnohcnneflogjaaGreatK38
import Derived.Test.YtnohcnneflogjaaGreatK08
import Derived.Test.YtnohcnneflogjaaGreatQB3
import Derived.Test.YtnohcnneflogjaaGreatK46
import Derived.Test.YtnohcnneflogjaaGreatQB1
set_option maxHeartbeats 8000000
set_option maxRecDepth 1000000
set_option linter.unusedVariables false
set_option linter.unusedSimpArgs false
namespace Go.Proofs.YtnohcnneflogjaaGreat.M
open Go.RowKit
theorem TOpen_calls (A : Option Addr) (c : Nat) (T : List Rec) (d : Int) (w : World) (hT : Table w A T) (hR : ∀ x ∈ T, Right x) (hW : ∀ x ∈ T, x.Wf) (hl : T.length ≤ 4096) (hd1 : -2147483648 ≤ d) (hd2 : d ≤ 2147483647) (r : List Int) (hr : openF T d = r) :
 Calls Tryz.prog 95 #[.slice A T.length c, .int .i32 d] w (RetRow r w) := by
 subst hr
 have HC := Az.mk (ROpen_calls A c T d w hT hR hW hl hd1 hd2)
 clear hT hR hW
 go_enter Tryz.func95, Tryz.ntmps95
 go_wp2_with (first | (go_at_call 138; (with_reducible refine (HC.out).mono ?_); rintro e w1 ⟨v1, rfl, hown1, hup1⟩))
 go_ret
 exact ⟨v1, rfl, hown1, hup1⟩
theorem TFull_calls (A : Option Addr) (c : Nat) (T : List Rec) (d : Int) (w : World) (hT : Table w A T) (hR : ∀ x ∈ T, Right x) (hW : ∀ x ∈ T, x.Wf) (hl : T.length ≤ 4096) (hd1 : -2147483648 ≤ d) (hd2 : d ≤ 2147483647) (hF : Fine T) (r : List Int) (hr : fullL T d = r) :
 Calls Tryz.prog 30 #[.slice A T.length c, .int .i32 d] w (RetRow r w) := by
 have hc := RFull_calls A c T d w hT hR hW hl hd1 hd2
 rw [hF.full d, hr] at hc
 have HC : Az (Calls Tryz.prog 81 #[.slice A T.length c, .int .i32 d] w fun e w' => ∃ v, e = .returned (.tuple #[v, .int .i64 0]) ∧ w'.ownsRow w.heap.size 21 1 v r.length (r.map (Value.int .i32)) ∧ Up w w') := ⟨hc.mono fun e w' h => by obtain ⟨v, h1, h2, h3, _⟩ := h; exact ⟨v, h1, h2, h3⟩⟩
 clear hT hR hW hc hr hF
 go_enter Tryz.func30, Tryz.ntmps30
 go_wp2_with (first | (go_at_call 81; (with_reducible refine (HC.out).mono ?_); rintro e w1 ⟨v1, rfl, hown1, hup1⟩))
 go_ret
 exact ⟨v1, rfl, hown1, hup1⟩
theorem pair_to {x : Rec} (hR : Right x) (hk : x.kind = 7) : x.to.length = 2 := by
 have hf := hR.fits
 unfold fitsB at hf
 simp [hk, listB] at hf
 omega
theorem any_step (p : Rec → Bool) (T : List Rec) (i : Nat) (x : Rec) (h : T[i]? = some x) : (T.drop i).any p = (p x || (T.drop (i + 1)).any p) := by
 have hi := (List.getElem?_eq_some_iff.1 h).1
 rw [List.drop_eq_getElem_cons hi, List.any_cons, (List.getElem?_eq_some_iff.1 h).2]
theorem mref3_2 {p : Prop} (h : p := by
 go_enter Tryz.func139, Tryz.ntmps139
 go_wp2_with (first | (go_at_call 152; (with_reducible refine (Rjv_calls d _ _ HJV.out).mono ?_); rintro e w1 ⟨rfl, rfl⟩) | (go_at_call 154; (with_reducible refine (Rjt_calls d _ _ HJT.out).mono ?_); rintro e w1 ⟨rfl, rfl⟩))
 go_ret
 exact ⟨rfl, up_refl _⟩) : p := h
theorem RSecond7_calls (A : Option Addr) (c : Nat) (T : List Rec) (d : Int) (w : World) (hT : Table w A T) (hR : ∀ x ∈ T, Right x) (hW : ∀ x ∈ T, x.Wf) (hl : T.length ≤ 4096) (hd1 : -2147483648 ≤ d) (hd2 : d ≤ 2147483647) (r : Bool) (hr : secondF T d = r) :
 Calls Tryz.prog 139 #[.slice A T.length c, .int .i32 d] w fun e w' => e = .returned (.bool r) ∧ Up w w' := by
 have hu96 := Tryz.underlying113
 have HT := Az.mk hT
 have HR := Az.mk hR
 unfold secondF at hr
 cases hj : jv d with
 | true =>
   have HJV := Az.mk hj
   have hr' : true = r := by rw [← hr, hj]; rfl
   subst hr'
   clear hT hR hW hr hj
   exact mref3_2
 | false =>
   cases ht : jt d with
   | true =>
     have HJV := Az.mk hj
     have HJT := Az.mk ht
     have hr' : true = r := by rw [← hr, hj, ht]; rfl
     subst hr'
     clear hT hR hW hr hj ht
     exact mref3_2
   | false =>
     have HJV := Az.mk hj
     have HJT := Az.mk ht
     have hr' : T.any (fun x => decide (x.kind = 7) && decide (rd x.to 1 = d)) = r := by rw [← hr, hj, ht]; rfl
     have HR2 := Az.mk hr'
     have HLT := Az.mk hl
     clear hT hR hW hr hj ht hr'
     go_enter Tryz.func139, Tryz.ntmps139
     go_wp2_with (first | (go_at_call 152; (with_reducible refine (Rjv_calls d _ _ HJV.out).mono ?_); rintro e w1 ⟨rfl, rfl⟩) | (go_at_call 154; (with_reducible refine (Rjt_calls d _ _ HJT.out).mono ?_); rintro e w1 ⟨rfl, rfl⟩))
     go_loopg [5] T.length (fun k v5 w' => ∃ i : Nat, v5 = .int .i64 i ∧ Az (i + k = T.length ∧ (T.drop i).any (fun x => decide (x.kind = 7) && decide (rd x.to 1 = d)) = r) ∧ Az (Up w w'))
     case atStart => exact ⟨0, rfl, ⟨Nat.zero_add _, HR2.out⟩, ⟨up_refl _⟩⟩
     case round =>
      obtain ⟨i, rfl, HN, HB⟩ := hrel
      cases gk with
      | zero =>
        have hlt : decide ((i : Int) < (T.length : Int)) = false := dFz (by have := HN.out; omega)
        have hlt1 : ¬ (i < T.length) := by have := HN.out; omega
        have hr := HN.out.2
        rw [List.drop_of_length_le (by omega)] at hr
        have hr : false = r := hr
        subst hr
        go_wp2
        go_ret
        exact ⟨rfl, HB.out⟩
      | succ k =>
        have hlt : decide ((i : Int) < (T.length : Int)) = true := dTz (by have := HN.out; omega)
        have hlt1 : i < T.length := by have := HN.out; omega
        have hll := HLT.out
        have p1 : 0 ≤ (i : Int) := by omega
        have p2 : (i : Int) < (T.length : Int) := by omega
        have hx : T[i]? = some T[i] := List.getElem?_eq_getElem hlt1
        obtain ⟨x, hxx⟩ : ∃ x, T[i]'hlt1 = x := ⟨_, rfl⟩
        rw [hxx] at hx
        have hr := HN.out.2
        rw [any_step _ T i x hx] at hr
        have hRx := HR.out x (List.mem_of_getElem? hx)
        obtain ⟨ad, hA, A', c', hrec, hto⟩ := HT.out i x hx
        subst hA
        obtain ⟨g0, g1, g2, g3, g4, g5, g6, g7⟩ := hrec.up HB.out
        have HTO := Az.mk (hto.up HB.out)
        clear hxx hx hrec hto
        by_cases hk : x.kind = 7
        ·have e7 : (x.kind == 7) = true := beq_iff_eq.mpr hk
         have hlen := (pair_to hRx hk)
         have h2 := pair_of hlen
         obtain ⟨ai, hai, hc1⟩ := HTO.out 1 (.int .i32 (rd x.to 1)) (by rw [h2]; rfl)
         subst hai
         obtain ⟨b, hb⟩ : ∃ b, rd x.to 1 = b := ⟨_, rfl⟩
         rw [hb] at hc1
         have hc1 : wr.cell? ⟨ai.block, ai.off + 1, none⟩ = some (.int .i32 b) := hc1
         rw [hlen] at g4
         have hr2 : (decide (b = d) || (T.drop (i + 1)).any (fun x => decide (x.kind = 7) && decide (rd x.to 1 = d))) = r := by rw [← hr, hk, hb]; rfl
         clear h2 hb hlen hr
         by_cases hbd : b = d
         ·have e1 : (b == d) = true := beq_iff_eq.mpr hbd
          have hr3 : true = r := by rw [← hr2, dTz hbd]; rfl
          subst hr3
          clear hbd hk hr2
          go_wp2
          go_ret
          exact ⟨rfl, HB.out⟩
         ·have e1 : (b == d) = false := bqf hbd
          have HR3 : Az ((T.drop (i + 1)).any (fun x => decide (x.kind = 7) && decide (rd x.to 1 = d)) = r) := ⟨by rw [← hr2, dFz hbd]; rfl⟩
          clear hbd hk hr2
          go_wp2
          go_roundg k
          case measure => have := HN.out; omega
          case rel => exact ⟨i + 1, rfl, ⟨by have := HN.out; omega, HR3.out⟩, HB⟩
        ·have e7 : (x.kind == 7) = false := bqf hk
         have HR3 : Az ((T.drop (i + 1)).any (fun x => decide (x.kind = 7) && decide (rd x.to 1 = d)) = r) := ⟨by rw [← hr, dFz hk]; rfl⟩
         clear hk hr
         go_wp2
         go_roundg k
         case measure => have := HN.out; omega
         case rel => exact ⟨i + 1, rfl, ⟨by have := HN.out; omega, HR3.out⟩, HB⟩
theorem TSecond_calls (A : Option Addr) (c : Nat) (T : List Rec) (d : Int) (w : World) (hT : Table w A T) (hR : ∀ x ∈ T, Right x) (hW : ∀ x ∈ T, x.Wf) (hl : T.length ≤ 4096) (hd1 : -2147483648 ≤ d) (hd2 : d ≤ 2147483647) (r : Bool) (hr : secondF T d = r) :
 Calls Tryz.prog 97 #[.slice A T.length c, .int .i32 d] w fun e w' => e = .returned (.bool r) ∧ Up w w' := by
 have HC := Az.mk (RSecond7_calls A c T d w hT hR hW hl hd1 hd2 r hr)
 clear hT hR hW hr
 go_enter Tryz.func97, Tryz.ntmps97
 go_wp2_with (first | (go_at_call 139; (with_reducible refine (HC.out).mono ?_); rintro e w1 ⟨rfl, hup1⟩))
 go_ret
 exact ⟨rfl, hup1⟩
def foundP (F : Option Rec) : Int × Bool := match F with | some x => (x.lo, true) | none => (0, false)
theorem find_step (p : Rec → Bool) (T : List Rec) (i : Nat) (x : Rec) (h : T[i]? = some x) : (T.drop i).find? p = if p x then some x else (T.drop (i + 1)).find? p := by
 have hi := (List.getElem?_eq_some_iff.1 h).1
 rw [List.drop_eq_getElem_cons hi, (List.getElem?_eq_some_iff.1 h).2, List.find?_cons]
 cases p x <;> rfl
theorem mref3_1 {p : Prop} (h : p := by
 go_enter Tryz.func137, Tryz.ntmps137
 go_wp2_with (first | (go_at_call 151; (with_reducible refine (Rjl_calls a _ _ H1.out).mono ?_); rintro e w1 ⟨rfl, rfl⟩) | (go_at_call 152; (with_reducible refine (Rjv_calls b _ _ H2.out).mono ?_); rintro e w1 ⟨rfl, rfl⟩) | (go_at_call 153; (with_reducible refine (Syllable_calls a _ _ H3.out).mono ?_); rintro e w1 ⟨rfl, rfl⟩) | (go_at_call 154; (with_reducible refine (Rjt_calls b _ _ H4.out).mono ?_); rintro e w1 ⟨rfl, rfl⟩))
 go_loopg [8] T.length (fun k v8 w' => ∃ i : Nat, v8 = .int .i64 i ∧ Az (i + k = T.length ∧ (T.drop i).find? (pairAt a b) = F) ∧ Az (Up w w'))
 case atStart => exact ⟨0, rfl, ⟨Nat.zero_add _, HFF.out⟩, ⟨up_refl _⟩⟩
 case round =>
  obtain ⟨i, rfl, HN, HB⟩ := hrel
  cases gk with
  | zero =>
    have hlt : decide ((i : Int) < (T.length : Int)) = false := dFz (by have := HN.out; omega)
    have hlt1 : ¬ (i < T.length) := by have := HN.out; omega
    have hr := HN.out.2
    rw [List.drop_of_length_le (by omega)] at hr
    have hr : none = F := hr
    have hq := HRF.out
    rw [← hr] at hq
    have hq : ((0 : Int), false) = (p, ok) := hq
    injection hq with q1 q2
    subst q1
    subst q2
    clear hr
    go_wp2
    go_ret2
    exact ⟨rfl, HB.out⟩
  | succ k =>
    have hlt : decide ((i : Int) < (T.length : Int)) = true := dTz (by have := HN.out; omega)
    have hlt1 : i < T.length := by have := HN.out; omega
    have hll := HLT.out
    have p1 : 0 ≤ (i : Int) := by omega
    have p2 : (i : Int) < (T.length : Int) := by omega
    have hx : T[i]? = some T[i] := List.getElem?_eq_getElem hlt1
    obtain ⟨x, hxx⟩ : ∃ x, T[i]'hlt1 = x := ⟨_, rfl⟩
    rw [hxx] at hx
    have hr := HN.out.2
    rw [find_step _ T i x hx] at hr
    have hRx := HR.out x (List.mem_of_getElem? hx)
    obtain ⟨ad, hA, A', c', hrec, hto⟩ := HT.out i x hx
    subst hA
    obtain ⟨g0, g1, g2, g3, g4, g5, g6, g7⟩ := hrec.up HB.out
    have HTO := Az.mk (hto.up HB.out)
    clear hxx hx hrec hto
    by_cases hk : x.kind = 7
    ·have e7 : (x.kind == 7) = true := beq_iff_eq.mpr hk
     have hlen := (pair_to hRx hk)
     have h2 := pair_of hlen
     obtain ⟨ai, hai, hc1⟩ := HTO.out 1 (.int .i32 (rd x.to 1)) (by rw [h2]; rfl)
     obtain ⟨aj, haj, hc0⟩ := HTO.out 0 (.int .i32 (rd x.to 0)) (by rw [h2]; rfl)
     subst hai
     cases haj
     obtain ⟨t0, ht0⟩ : ∃ t0, rd x.to 0 = t0 := ⟨_, rfl⟩
     obtain ⟨t1, ht1⟩ : ∃ t1, rd x.to 1 = t1 := ⟨_, rfl⟩
     rw [ht1] at hc1
     rw [ht0] at hc0
     have hc1 : wr.cell? ⟨ai.block, ai.off + 1, none⟩ = some (.int .i32 t1) := hc1
     have hc0 : wr.cell? ai = some (.int .i32 t0) := hc0
     rw [hlen] at g4
     have hpa : pairAt a b x = (decide (t0 = a) && decide (t1 = b)) := by unfold pairAt; rw [hk, ht0, ht1]; rfl
     rw [hpa] at hr
     have hlo := hRx.low
     have hlo2 := hRx.oneOf (by omega)
     have hsp := hRx.span (by omega)
     have l1 : 0 ≤ x.lo := by omega
     have l2 : x.lo ≤ 1114111 := by omega
     clear h2 ht0 ht1 hlen hpa hlo hlo2 hsp
     by_cases h0 : t0 = a
     ·have e0 : (t0 == a) = true := beq_iff_eq.mpr h0
      by_cases h1 : t1 = b
      ·have e1 : (t1 == b) = true := beq_iff_eq.mpr h1
       rw [dTz h0, dTz h1] at hr
       have hr : some x = F := hr
       have hq := HRF.out
       rw [← hr] at hq
       have hq : (x.lo, true) = (p, ok) := hq
       injection hq with q1 q2
       subst q1
       subst q2
       clear h0 h1 hk hr
       go_wp2
       go_ret2
       exact ⟨rfl, HB.out⟩
      ·have e1 : (t1 == b) = false := bqf h1
       rw [dFz h1, Bool.and_false] at hr
       have HR3 : Az ((T.drop (i + 1)).find? (pairAt a b) = F) := ⟨hr⟩
       clear h0 h1 hk hr
       go_wp2
       go_roundg k
       case measure => have := HN.out; omega
       case rel => exact ⟨i + 1, rfl, ⟨by have := HN.out; omega, HR3.out⟩, HB⟩
     ·have e0 : (t0 == a) = false := bqf h0
      rw [dFz h0, Bool.false_and] at hr
      have HR3 : Az ((T.drop (i + 1)).find? (pairAt a b) = F) := ⟨hr⟩
      clear h0 hk hr
      go_wp2
      go_roundg k
      case measure => have := HN.out; omega
      case rel => exact ⟨i + 1, rfl, ⟨by have := HN.out; omega, HR3.out⟩, HB⟩
    ·have e7 : (x.kind == 7) = false := bqf hk
     have hpa : pairAt a b x = false := by unfold pairAt; rw [dFz hk]; rfl
     rw [hpa] at hr
     have HR3 : Az ((T.drop (i + 1)).find? (pairAt a b) = F) := ⟨hr⟩
     clear hk hr hpa
     go_wp2
     go_roundg k
     case measure => have := HN.out; omega
     case rel => exact ⟨i + 1, rfl, ⟨by have := HN.out; omega, HR3.out⟩, HB⟩) : p := h
theorem RCompose7_calls (A : Option Addr) (c : Nat) (T : List Rec) (a b : Int) (w : World) (hT : Table w A T) (hR : ∀ x ∈ T, Right x) (hW : ∀ x ∈ T, x.Wf) (hl : T.length ≤ 4096) (ha1 : -2147483648 ≤ a) (ha2 : a ≤ 2147483647) (hb1 : -2147483648 ≤ b) (hb2 : b ≤ 2147483647) (p : Int) (ok : Bool) (hr : compF T a b = (p, ok)) :
 Calls Tryz.prog 137 #[.slice A T.length c, .int .i32 a, .int .i32 b] w fun e w' => e = .returned (.tuple #[.int .i32 p, .bool ok]) ∧ Up w w' := by
 have hu96 := Tryz.underlying113
 have HT := Az.mk hT
 have HR := Az.mk hR
 have HLT := Az.mk hl
 have HJ : ∀ x y, jl x = true → jv y = true → 4352 ≤ x ∧ x ≤ 4370 ∧ 4449 ≤ y ∧ y ≤ 4469 := fun x y h1 h2 => by simp [jl, jv] at h1 h2; omega
 by_cases hi : jl a = true ∧ jv b = true
 ·obtain ⟨h1, h2⟩ := hi
  have hc : compF T a b = (44032 + ((a - 4352) * 21 + b - 4449) * 28, true) := by unfold compF; rw [h1, h2]; rfl
  rw [hc] at hr
  injection hr with q1 q2
  subst q2
  obtain ⟨p1, p2, p3, p4⟩ := HJ a b h1 h2
  have H1 := Az.mk h1
  have H2 := Az.mk h2
  have HQ1 := Az.mk q1
  clear hc h1 h2 ha1 ha2 hb1 hb2 HJ hT hR hW hl q1
  go_enter Tryz.func137, Tryz.ntmps137
  go_wp2_with (first | (go_at_call 151; (with_reducible refine (Rjl_calls a _ _ H1.out).mono ?_); rintro e w1 ⟨rfl, rfl⟩) | (go_at_call 152; (with_reducible refine (Rjv_calls b _ _ H2.out).mono ?_); rintro e w1 ⟨rfl, rfl⟩) | (go_at_call 153; (with_reducible refine (Syllable_calls a _ _ H3.out).mono ?_); rintro e w1 ⟨rfl, rfl⟩) | (go_at_call 154; (with_reducible refine (Rjt_calls b _ _ H4.out).mono ?_); rintro e w1 ⟨rfl, rfl⟩))
  go_ret2
  refine ⟨?_, up_refl _⟩
  rw [← HQ1.out, show (44032 + ((a - 4352) * 21 + b - 4449) * 28 : Int) = 44032 + (21 * (a - 4352) + b - 4449) * 28 by omega]
  rfl
 have hI : (jl a && jv b) = false := by
  cases h1 : jl a <;> cases h2 : jv b <;> simp_all
 by_cases hii : syl a = true ∧ (a - 44032) % 28 = 0 ∧ jt b = true
 ·obtain ⟨h3, hr0, h4⟩ := hii
  have hc : compF T a b = (a + b - 4519, true) := by
   unfold compF
   rw [if_neg (by rw [hI]; decide), h3, h4, dTz hr0]
   rfl
  rw [hc] at hr
  injection hr with q1 q2
  subst q1
  subst q2
  have h1 : jl a = false := by simp [syl, jl] at *; omega
  have hs := syl_iff h3
  have p1 : 44032 ≤ a := hs.1
  have p2 : a ≤ 55203 := hs.2
  have hb : 4520 ≤ b ∧ b ≤ 4546 := by simpa [jt] using h4
  obtain ⟨p3, p4⟩ := hb
  have er : ((a - 44032) % 28 == 0) = true := beq_iff_eq.mpr hr0
  have H1 := Az.mk h1
  have H3 := Az.mk h3
  have H4 := Az.mk h4
  clear hc h1 h3 h4 hr0 hs ha1 ha2 hb1 hb2 HJ hI hi hT hR hW hl
  go_enter Tryz.func137, Tryz.ntmps137
  go_wp2_with (first | (go_at_call 151; (with_reducible refine (Rjl_calls a _ _ H1.out).mono ?_); rintro e w1 ⟨rfl, rfl⟩) | (go_at_call 152; (with_reducible refine (Rjv_calls b _ _ H2.out).mono ?_); rintro e w1 ⟨rfl, rfl⟩) | (go_at_call 153; (with_reducible refine (Syllable_calls a _ _ H3.out).mono ?_); rintro e w1 ⟨rfl, rfl⟩) | (go_at_call 154; (with_reducible refine (Rjt_calls b _ _ H4.out).mono ?_); rintro e w1 ⟨rfl, rfl⟩))
  go_ret2
  exact ⟨rfl, up_refl _⟩
 have hII : ((syl a && decide ((a - 44032) % 28 = 0)) && jt b) = false := by
  cases h3 : syl a <;> cases h4 : jt b <;> by_cases hr : (a - 44032) % 28 = 0 <;> simp_all
 obtain ⟨F, hF⟩ : ∃ F, T.find? (pairAt a b) = F := ⟨_, rfl⟩
 have HFF := Az.mk hF
 have HRF : Az (foundP F = (p, ok)) := ⟨by
  rw [← hr, ← hF]
  unfold compF foundP
  rw [if_neg (by rw [hI]; decide), if_neg (by rw [hII]; decide)]
  cases T.find? (pairAt a b) <;> rfl⟩
 have hfirst : (jl a = true ∧ jv b = false) ∨ jl a = false := by
  cases h1 : jl a <;> cases h2 : jv b <;> simp_all
 have hsec : syl a = false ∨ (syl a = true ∧ ((a - 44032) % 28 == 0) = false) ∨ (syl a = true ∧ ((a - 44032) % 28 == 0) = true ∧ jt b = false) := by
  cases h3 : syl a <;> cases h4 : jt b <;> by_cases hr : (a - 44032) % 28 = 0 <;> simp_all
 clear hr hI hII hi hii HJ ha1 ha2 hb1 hb2 hF hT hR hW hl
 rcases hsec with h3 | ⟨h3, er⟩ | ⟨h3, er, h4⟩
 ·have H3 := Az.mk h3
  clear h3
  rcases hfirst with ⟨h1, h2⟩ | h1
  ·have H1 := Az.mk h1
   have H2 := Az.mk h2
   clear h1 h2
   exact mref3_1
  ·have H1 := Az.mk h1
   clear h1
   exact mref3_1
 ·have H3 := Az.mk h3
  have hs := syl_iff h3
  have p1 : 44032 ≤ a := hs.1
  have p2 : a ≤ 55203 := hs.2
  have h1 : jl a = false := by cases hh : jl a with | false => rfl | true => (simp [jl] at hh; omega)
  have H1 := Az.mk h1
  clear h3 hs h1 hfirst
  exact mref3_1
 ·have H3 := Az.mk h3
  have H4 := Az.mk h4
  have hs := syl_iff h3
  have p1 : 44032 ≤ a := hs.1
  have p2 : a ≤ 55203 := hs.2
  have h1 : jl a = false := by cases hh : jl a with | false => rfl | true => (simp [jl] at hh; omega)
  have H1 := Az.mk h1
  clear h3 hs h1 hfirst h4
  exact mref3_1
theorem TCompose_calls (A : Option Addr) (c : Nat) (T : List Rec) (a b : Int) (w : World) (hT : Table w A T) (hR : ∀ x ∈ T, Right x) (hW : ∀ x ∈ T, x.Wf) (hl : T.length ≤ 4096) (ha1 : -2147483648 ≤ a) (ha2 : a ≤ 2147483647) (hb1 : -2147483648 ≤ b) (hb2 : b ≤ 2147483647) (p : Int) (ok : Bool) (hr : compF T a b = (p, ok)) :
 Calls Tryz.prog 91 #[.slice A T.length c, .int .i32 a, .int .i32 b] w fun e w' => e = .returned (.tuple #[.int .i32 p, .bool ok]) ∧ Up w w' := by
 have HC := Az.mk (RCompose7_calls A c T a b w hT hR hW hl ha1 ha2 hb1 hb2 p ok hr)
 clear hT hR hW hr
 go_enter Tryz.func91, Tryz.ntmps91
 go_wp2_with (first | (go_at_call 137; (with_reducible refine (HC.out).mono ?_); rintro e w1 ⟨rfl, hup1⟩))
 go_ret2
 exact ⟨rfl, hup1⟩
end Go.Proofs.YtnohcnneflogjaaGreat.M
namespace Go.Proofs.YtnohcnneflogjaaGreat.M.St
open Go.Shelf Go.RowKit Go.Lib Go.Sort
structure TabAt (w : World) (A : Option Addr) (T : List Rec) : Prop where
 tab : Table w A T
 fine : Fine T
theorem TabAt.up {w w' : World} {A : Option Addr} {T : List Rec} (h : TabAt w A T) (hu : Up w w') : TabAt w' A T := ⟨h.tab.up hu, h.fine⟩
section
variable {w : World} {At : Option Addr} {T : List Rec}
theorem TabAt.Class (h : TabAt w At T) (ct : Nat) (d n : Int) (hn : numF T 2 (·.n) d = n) (h1 : -2147483648 ≤ d ∧ d ≤ 2147483647) :
 Calls Tryz.prog 82 #[.slice At T.length ct, .int .i32 d] w fun e w' => e = .returned (.int .i64 n) ∧ Up w w' :=
 TClass_calls At ct T d w h.tab h.fine.right h.fine.wf h.fine.len h1.1 h1.2 n hn
theorem TabAt.Full (h : TabAt w At T) (ct : Nat) (d : Int) (l : List Int) (hl : fullL T d = l) (h1 : -2147483648 ≤ d ∧ d ≤ 2147483647) :
 Calls Tryz.prog 30 #[.slice At T.length ct, .int .i32 d] w (RetRow l w) :=
 TFull_calls At ct T d w h.tab h.fine.right h.fine.wf h.fine.len h1.1 h1.2 h.fine l hl
theorem ROpen12_calls (hT : TabAt w At T) (ct : Nat) (A : Option Addr) (c : Nat) (x : List Int) (hI : Ints .i32 w A x) (hr : InI32 x) (hx : x.length ≤ 100000) (ys : List Int) (hys : openX T x = ys) :
 Calls Tryz.prog 32 #[.slice At T.length ct, .slice A x.length c] w (RetRow ys w) := by
 obtain ⟨ie, ze, hie, hze, hsi, hby, hzc⟩ := i32_info
 have HT := Az.mk hT
 have HX := Az.mk hI
 have HR := Az.mk hr
 have HYS := Az.mk hys
 clear hT hI hr hys
 go_enter Tryz.func32, Tryz.ntmps32
 go_wp2
 go_loopg [5, 6] x.length (fun k v5 v6 wr => ∃ (i : Nat) (q : List Int) (Aq : Option Addr) (cq : Nat), v6 = .int .i64 i ∧ v5 = .slice Aq q.length cq ∧ Az (i + k = x.length) ∧ Az (openX T (x.take i) = q) ∧ Az (wr.ownsRow w.heap.size 21 1 (.slice Aq q.length cq) q.length (q.map (Value.int .i32))) ∧ Az (Up w wr))
 case atStart => exact ⟨0, [], none, 0, rfl, rfl, ⟨Nat.zero_add _⟩, ⟨by simp [openX]⟩, ⟨World.ownsRow_nil _ _ _ _⟩, ⟨up_refl _⟩⟩
 case round =>
  obtain ⟨i, q, Aq, cq, rfl, rfl, HI, HQ, HO, HU⟩ := hrel
  cases gk with
  | zero =>
    have hlt : decide ((i : Int) < (x.length : Int)) = false := dFz (by have := HI.out; omega)
    have hlt1 : ¬ (i < x.length) := by have := HI.out; omega
    go_wp2
    go_ret
    have e := HQ.out
    rw [List.take_of_length_le (by omega), HYS.out] at e
    subst e
    exact ⟨_, rfl, HO.out, HU.out⟩
  | succ k =>
    have hi : i < x.length := by have := HI.out; omega
    have hlt : decide ((i : Int) < (x.length : Int)) = true := dTz (by omega)
    have z1 : (i : Int) < (x.length : Int) := by omega
    obtain ⟨ad, hA, y1⟩ := HX.out.at_ i (by omega) z1
    have y2 := up_cell HU.out y1
    rw [Int.toNat_natCast] at y2
    subst hA
    clear y1
    obtain ⟨d, hd⟩ : ∃ d, x[i] = d := ⟨_, rfl⟩
    rw [rd_elem x i hi, hd] at y2
    have HR1 : Az (-2147483648 ≤ d ∧ d ≤ 2147483647) := ⟨HR.out d (by rw [← hd]; exact List.getElem_mem _)⟩
    obtain ⟨l, hl⟩ : ∃ l, fullL T d = l := ⟨_, rfl⟩
    have HLL : Az (l.length ≤ 32) := ⟨by rw [← hl]; exact full_len HT.out.fine d⟩
    have HQL : Az (q.length ≤ 32 * x.length) := ⟨by
     rw [← HQ.out]
     refine Nat.le_trans (openX_len HT.out.fine _) ?_
     rw [List.length_take]
     omega⟩
    have HNX : Az (openX T (x.take (i + 1)) = q ++ l) := ⟨by rw [openX_take T x hi, HQ.out, hd, hl]⟩
    have HFC := Az.mk ((HT.out.up HU.out).Full ct d l hl HR1.out)
    have HMX : Az (q.length + l.length ≤ maxLen ∧ (q.length + l.length) * 4 ≤ 140737488355328) := ⟨by
     have h1 := HLL.out
     have h2 := HQL.out
     refine ⟨?_, by omega⟩
     show q.length + l.length ≤ 9223372036854775807
     omega⟩
    clear hd hl
    go_wp2_with (first | (go_at_call 30; (with_reducible refine HFC.out.mono ?_); rintro e w1 ⟨v1, rfl, hown1, hup1⟩; obtain ⟨A1, c1, hv1, hi1, _⟩ := own_ints hown1; subst hv1; have HU2 := Az.mk hup1; have HI1 := Az.mk hi1; clear hown1 hup1 hi1) |
     (at_builtin; refine (wpList_append_row _ rfl _ _ 23 rfl w.heap.size 21 ie ze 1 4 Tryz.underlying23 hie hze hsi hby hzc (by decide) _ q.length (q.map (Value.int .i32)) rfl (own_up HO.out HU2.out) A1 l.length c1 (l.map (Value.int .i32)) rfl (by simp) HI1.out (ints_one _ _) ?ha ?hb ?hc ?_); (case ha => exact HMX.out.1); (case hb => exact HMX.out.2); (case hc => exact (up_trans HU.out HU2.out).size); intro v' w3 hown' hgrow hat'; have HO3 : Az (w3.ownsRow w.heap.size 21 1 v' (q ++ l).length ((q ++ l).map (Value.int .i32))) := ⟨by rw [List.length_append, List.map_append]; exact hown'⟩; obtain ⟨A3, c3, hv3⟩ := own_any HO3.out; subst hv3; have HG3 := Az.mk hgrow; clear hown' hgrow hat'))
    go_roundg k
    case measure => omega
    case rel =>
     have hup : Up w w3 := by
      have h1 := up_trans HU.out HU2.out
      exact Below.grown h1 HG3.out h1.size (fun k hk => (HO.out.lt k hk).1)
     exact ⟨i + 1, q ++ l, A3, c3, by go_num, by rw [List.length_append], ⟨by have := HI.out; omega⟩, HNX, HO3, ⟨hup⟩⟩
theorem docR_take (cl : Int → Int) : ∀ (u r : List Int) (c : Int), docR cl (u ++ [c]) r = insR cl c (docR cl u r)
 | [], r, c => rfl
 | a :: u, r, c => by rw [List.cons_append, docR, docR, docR_take cl u]
theorem docR_len (cl : Int → Int) : ∀ (u r : List Int), (docR cl u r).length = u.length + r.length
 | [], r => by simp [docR]
 | a :: u, r => by rw [docR, docR_len cl u, insR_length]; simp; omega
theorem swap_set (P R : List Int) (a c : Int) : ((P ++ a :: c :: R).set (P.length + 1) a).set P.length c = P ++ c :: a :: R := by
 rw [List.set_append_right _ _ (by omega), List.set_append_right _ _ (by omega)]
 simp
theorem inI32_set {L : List Int} (h : InI32 L) {q : Nat} {z : Int} (hz : -2147483648 ≤ z ∧ z ≤ 2147483647) : InI32 (L.set q z) := fun y hy => by
 rcases List.mem_or_eq_of_mem_set hy with h' | rfl
 ·exact h y h'
 ·exact hz
theorem rd_mid (P R : List Int) (a : Int) : rd (P ++ a :: R) (P.length : Nat) = a := by
 rw [rd_get _ _ (by simp), List.getElem_append_right (by omega)]
 simp
structure Mid (cl : Int → Int) (L : List Int) (k : Nat) (c : Int) (N R : List Int) (P B : List Int) : Prop where
 l : L = P ++ c :: (B ++ R)
 k : P.length = k
 n : (insR cl c P.reverse).reverse ++ B = N
theorem Mid.done {cl : Int → Int} {L : List Int} {k : Nat} {c : Int} {N R P B : List Int} (h : Mid cl L k c N R P B) (hs : k = 0 ∨ cl c = 0 ∨ ¬ cl (rd L ((k - 1 : Nat) : Int)) > cl c) : L = N ++ R := by
 have key : insR cl c P.reverse = c :: P.reverse := by
  rcases List.eq_nil_or_concat P with rfl | ⟨P', a, rfl⟩
  ·rfl
  ·rw [List.concat_eq_append] at *
   rw [List.reverse_append, List.reverse_singleton, List.singleton_append, insR, if_neg]
   rintro ⟨h1, h2⟩
   have hk := h.k
   simp at hk
   rcases hs with hs | hs | hs
   ·omega
   ·exact h1 hs
   ·apply hs
    have e : rd L ((k - 1 : Nat) : Int) = a := by
     rw [h.l, List.append_assoc, List.singleton_append, show k - 1 = P'.length by omega]
     exact rd_mid _ _ _
    rw [e]
    exact h2
 have hn := h.n
 rw [key, List.reverse_cons, List.reverse_reverse] at hn
 rw [h.l, ← hn]
 simp
theorem Mid.step {cl : Int → Int} {L : List Int} {k : Nat} {c : Int} {N R P B : List Int} (h : Mid cl L (k + 1) c N R P B) (h1 : cl c ≠ 0) (h2 : cl (rd L (k : Int)) > cl c) :
 ∃ P' B', Mid cl ((L.set (k + 1) (rd L (k : Int))).set k c) k c N R P' B' := by
 rcases List.eq_nil_or_concat P with rfl | ⟨P', a, rfl⟩
 ·have := h.k
  cases this
 ·rw [List.concat_eq_append] at *
  have hk := h.k
  simp at hk
  subst hk
  have hl : L = P' ++ a :: c :: (B ++ R) := by rw [h.l]; simp
  have e : rd L ((P'.length : Nat) : Int) = a := by rw [hl]; exact rd_mid _ _ _
  rw [e] at h2
  refine ⟨P', a :: B, ?_, rfl, ?_⟩
  ·rw [e, hl, swap_set]
   rfl
  ·have hn := h.n
   rw [List.reverse_append, List.reverse_singleton, List.singleton_append, insR, if_pos ⟨h1, h2⟩] at hn
   rw [← hn]
   simp
theorem Mid.at {cl : Int → Int} {L : List Int} {k : Nat} {c : Int} {N R P B : List Int} (h : Mid cl L k c N R P B) : rd L (k : Int) = c := by
 rw [h.l, ← h.k]
 exact rd_mid _ _ _
theorem Mid.len {cl : Int → Int} {L : List Int} {k : Nat} {c : Int} {N R P B : List Int} (h : Mid cl L k c N R P B) : k < L.length := by
 rw [h.l, ← h.k]
 simp
theorem RSort12_calls (hT : TabAt w At T) (ct : Nat) (A : Option Addr) (c : Nat) (x : List Int) (hI : Ints .i32 w A x) (hr : InI32 x) (hx : x.length ≤ 100000000) (ys : List Int) (hys : sortF T x = ys) :
 Calls Tryz.prog 33 #[.slice At T.length ct, .slice A x.length c] w (RetRow ys w) := by
 obtain ⟨ie, ze, hie, hze, hsi, hby, hzc⟩ := i32_info
 obtain ⟨cl, hcl⟩ : ∃ cl, numF T 2 (·.n) = cl := ⟨_, rfl⟩
 have HCL := Az.mk hcl
 have HP : Az (∀ z, 0 ≤ cl z) := ⟨by rw [← hcl]; exact hp_of hT.fine.toGood⟩
 have HYS : Az ((docR cl x []).reverse = ys) := ⟨by rw [docR_sort cl HP.out, ← hcl]; exact hys⟩
 have HT := Az.mk hT
 have HX := Az.mk hI
 have HR := Az.mk hr
 have HLEN : Az (0 + x.length ≤ maxLen ∧ (0 + x.length) * 4 ≤ 140737488355328) := ⟨by unfold maxLen; omega⟩
 have HXL := Az.mk hx
 clear hT hI hr hys hx hcl
 go_enter Tryz.func33, Tryz.ntmps33
 go_wp2_with (first | (at_builtin; refine (wpList_append_row _ rfl _ _ 23 rfl w.heap.size 21 ie ze 1 4 Tryz.underlying23 hie hze hsi hby hzc (by decide) _ 0 [] rfl (World.ownsRow_nil _ _ _ _) A x.length c (x.map (Value.int .i32)) rfl (by simp) HX.out (ints_one _ _) ?hb ?hc ?hd ?_); (case hb => exact HLEN.out.1); (case hc => exact HLEN.out.2); (case hd => exact Nat.le_refl _); intro v' w3 hown' hgrow hat'; rw [Nat.zero_add, List.nil_append] at hown'; obtain ⟨A3, c3, hv⟩ := own_any hown'; subst hv; have HO3 := Az.mk hown'; have HU3 := Az.mk (up_nil hgrow rfl); clear hown' hgrow hat'))
 obtain ⟨n, hn⟩ : ∃ n, x.length = n := ⟨_, rfl⟩
 have HN := Az.mk hn
 rw [hn] at HO3 ⊢
 clear hn
 go_loopg [6, 7, 8] (n - 1) (fun k v6 v7 v8 wr => ∃ (i : Nat) (L : List Int), v6 = .int .i64 i ∧ Az (1 ≤ i ∧ i + k = n - 1 + 1 ∧ L.length = n) ∧ Az (L = (docR cl (x.take i) []).reverse ++ x.drop i) ∧ Az (InI32 L) ∧ Az (wr.ownsRow w.heap.size 21 1 (.slice A3 n c3) n (L.map (Value.int .i32))) ∧ Az (Up w wr))
 case atStart =>
  refine ⟨1, x, rfl, ⟨Nat.le_refl _, by omega, HN.out⟩, ⟨?_⟩, HR, HO3, HU3⟩
  cases x with
  | nil => rfl
  | cons a t => rfl
 case round =>
  obtain ⟨i, L, rfl, HI, HL, HRL, HO, HU⟩ := hrel
  cases gk with
  | zero =>
    have hlt : decide ((i : Int) < (n : Int)) = false := dFz (by have := HI.out; omega)
    have hlt1 : ¬ (i < n) := by have := HI.out; omega
    have e : L = ys := by
     have := HN.out
     rw [HL.out, List.take_of_length_le (by omega), List.drop_eq_nil_of_le (by omega), List.append_nil]
     exact HYS.out
    go_wp2
    go_ret
    subst e
    refine ⟨_, rfl, ?_, HU.out⟩
    rw [HI.out.2.2]
    exact HO.out
  | succ k =>
    have hi : i < n := by have := HI.out; omega
    have hlt : decide ((i : Int) < (n : Int)) = true := dTz (by omega)
    have z1 : (i : Int) < (n : Int) := by omega
    have hix : i < x.length := by rw [HN.out]; exact hi
    obtain ⟨d, hd⟩ : ∃ d, x[i] = d := ⟨_, rfl⟩
    obtain ⟨N, hN⟩ : ∃ N, (docR cl (x.take (i + 1)) []).reverse = N := ⟨_, rfl⟩
    have HNN := Az.mk hN
    have hM : Mid cl L i d N (x.drop (i + 1)) (docR cl (x.take i) []).reverse [] := by
     refine ⟨?_, ?_, ?_⟩
     ·rw [HL.out, List.drop_eq_getElem_cons hix, hd]
      rfl
     ·rw [List.length_reverse, docR_len, List.length_take]
      simp
      omega
     ·rw [List.reverse_reverse, List.append_nil, ← hN, List.take_succ_eq_append_getElem hix, docR_take, hd]
    have HM := Az.mk hM
    have HDR : Az (-2147483648 ≤ d ∧ d ≤ 2147483647) := ⟨HR.out d (by rw [← hd]; exact List.getElem_mem _)⟩
    obtain ⟨e, he⟩ : ∃ e, cl d = e := ⟨_, rfl⟩
    have HE := Az.mk he
    have HCN : Az (∀ W, Up w W → Calls Tryz.prog 82 #[.slice At T.length ct, .int .i32 d] W fun e' w' => e' = .returned (.int .i64 e) ∧ Up W w') := ⟨fun W hW => (HT.out.up hW).Class ct d e (by rw [HCL.out]; exact HE.out) HDR.out⟩
    have HI0 : Az (i < n ∧ 1 ≤ i ∧ i + (k + 1) = n - 1 + 1) := ⟨hi, HI.out.1, HI.out.2.1⟩
    clear hN hM hd he hix
    go_wp2
    go_loopg [7, 8] i (fun k v7 v8 wr => ∃ (L : List Int) (P B : List Int), v7 = .int .i64 k ∧ Az (L.length = n) ∧ Az (Mid cl L k d N (x.drop (i + 1)) P B) ∧ Az (InI32 L) ∧ Az (wr.ownsRow w.heap.size 21 1 (.slice A3 n c3) n (L.map (Value.int .i32))) ∧ Az (Up w wr))
    case atStart => exact ⟨L, _, _, rfl, ⟨HI.out.2.2⟩, HM, HRL, HO, HU⟩
    case round =>
     obtain ⟨L2, P, B, rfl, HL2, HM2, HRL2, HO2, HU2⟩ := hrel
     clear HL HRL HO HU HM HI HO3 HU3 hlt hi z1
     have HK0 : Az (i < n ∧ 1 ≤ i ∧ i + (k + 1) = n - 1 + 1) := ⟨HI0.out⟩
     have next : ∀ W, W.ownsRow w.heap.size 21 1 (.slice A3 n c3) n ((N ++ x.drop (i + 1)).map (Value.int .i32)) → Up w W → InI32 (N ++ x.drop (i + 1)) → (N ++ x.drop (i + 1)).length = n → ∃ (i' : Nat) (L' : List Int), Value.int .i64 ((i : Int) + 1) = .int .i64 i' ∧ Az (1 ≤ i' ∧ i' + k = n - 1 + 1 ∧ L'.length = n) ∧ Az (L' = (docR cl (x.take i') []).reverse ++ x.drop i') ∧ Az (InI32 L') ∧ Az (W.ownsRow w.heap.size 21 1 (.slice A3 n c3) n (L'.map (Value.int .i32))) ∧ Az (Up w W) :=
      fun W h1 h2 h3 h4 => ⟨i + 1, _, rfl, ⟨by omega, by have := HK0.out; omega, h4⟩, ⟨by rw [HNN.out]⟩, ⟨h3⟩, ⟨h1⟩, ⟨h2⟩⟩
     have hni : (i : Int) < 100000000 := by have := HXL.out; have := HN.out; have := HK0.out; omega
     have NX := Az.mk next
     clear next
     cases gk with
     | zero =>
       have e := HM2.out.done (.inl rfl)
       subst e
       go_wp2
       go_quiet (fail)
       go_wp2
       go_roundg k
       case measure => omega
       case rel => exact NX.out _ (own_up HO2.out (up_drewN (up_refl _) _)) (up_drewN HU2.out _) HRL2.out HL2.out
     | succ k2 =>
       have HLT := HM2.out.len
       rw [HL2.out] at HLT
       obtain ⟨g, rfl, hge⟩ := own_some HO2.out (by omega)
       obtain ⟨q, hq⟩ : ∃ q, k2 + 1 = q := ⟨_, rfl⟩
       have HQ := Az.mk hq
       have hlt2 : k2 < n := by omega
       rw [hq] at HLT
       obtain ⟨y1, yf1⟩ := own_at HO2.out HLT
       obtain ⟨y2, yf2⟩ := own_at HO2.out hlt2
       have hrd := HM2.out.at
       rw [hq] at hrd ⊢
       obtain ⟨a, ha⟩ : ∃ a, rd L2 (k2 : Int) = a := ⟨_, rfl⟩
       have HA := Az.mk ha
       rw [hrd] at y1
       rw [ha] at y2
       have HAR : Az (-2147483648 ≤ a ∧ a ≤ 2147483647) := ⟨by rw [← ha, rd_get L2 k2 (by rw [HL2.out]; exact hlt2)]; exact HRL2.out _ (List.getElem_mem _)⟩
       obtain ⟨b, hb⟩ : ∃ b, cl a = b := ⟨_, rfl⟩
       have HB := Az.mk hb
       have HCA : Az (∀ W, Up w W → Calls Tryz.prog 82 #[.slice At T.length ct, .int .i32 a] W fun e' w' => e' = .returned (.int .i64 b) ∧ Up W w') := ⟨fun W hW => (HT.out.up hW).Class ct a b (by rw [HCL.out]; exact HB.out) HAR.out⟩
       have q0 : decide ((q : Int) > 0) = true := dTz (by omega)
       have q00 : decide (0 < q) = true := dTz (by omega)
       have hql : (q : Int) < 100000000 := by have := HXL.out; have := HN.out; omega
       have hw1 : wrap64 ((q : Int) - 1) = (k2 : Int) := by unfold wrap64; omega
       have hw2 : IntKind.i64.wrap ((q : Int) - 1) = (k2 : Int) := by rw [IntKind.wrap_i64]; omega
       have m1 : 0 ≤ (k2 : Int) := by omega
       have m2 : (k2 : Int) < (n : Int) := by omega
       have m3 : 0 ≤ (q : Int) := by omega
       have m4 : (q : Int) < (n : Int) := by omega
       have hs0 : wr.drew.cell? ⟨g, q, none⟩ = some (.int .i32 d) ∧ wr.drew.cell? ⟨g, k2, none⟩ = some (.int .i32 a) := ⟨y1, y2⟩
       have HY1 := Az.mk y1
       have HY2 := Az.mk y2
       have HGE := Az.mk hge
       have HLQ := Az.mk HLT
       have HL22 := Az.mk hlt2
       have HRD := Az.mk hrd
       clear hq hrd ha hb HLT hlt2 hge
       by_cases he0 : e = 0
       ·have e0 : (e == 0) = true := beq_iff_eq.mpr he0
        have e1 : (e != 0) = false := by rw [bne, e0]; rfl
        have ee := HM2.out.done (.inr (.inl (by rw [HE.out]; exact he0)))
        subst ee
        clear he0
        go_wp2
        refine wp_region_held_drew (S := (fun w' => w'.cell? ⟨g, q, none⟩ = some (.int .i32 d) ∧ w'.cell? ⟨g, k2, none⟩ = some (.int .i32 a))) (by kernel_rfl) hs0 (fun hHeld => ?_)
        refine takeR 0 ?_
        (try simp only [Act.put, List.setIfInBounds_toArray, List.set_cons_zero, List.set_cons_succ, List.getElem_toArray, List.getElem_cons_zero, List.getElem_cons_succ])
        refine takeR 1 ?_
        (try simp only [Act.put, List.setIfInBounds_toArray, List.set_cons_zero, List.set_cons_succ, List.getElem_toArray, List.getElem_cons_zero, List.getElem_cons_succ])
        refine takeR 2 ?_
        (try simp only [Act.put, List.setIfInBounds_toArray, List.set_cons_zero, List.set_cons_succ, List.getElem_toArray, List.getElem_cons_zero, List.getElem_cons_succ])
        refine takeR 3 ?_
        (try simp only [Act.put, List.setIfInBounds_toArray, List.set_cons_zero, List.set_cons_succ, List.getElem_toArray, List.getElem_cons_zero, List.getElem_cons_succ])
        refine takeR 4 ?_
        (try simp only [Act.put, List.setIfInBounds_toArray, List.set_cons_zero, List.set_cons_succ, List.getElem_toArray, List.getElem_cons_zero, List.getElem_cons_succ])
        refine takeR 5 ?_
        (try simp only [Act.put, List.setIfInBounds_toArray, List.set_cons_zero, List.set_cons_succ, List.getElem_toArray, List.getElem_cons_zero, List.getElem_cons_succ])
        refine takeR 6 ?_
        (try simp only [Act.put, List.setIfInBounds_toArray, List.set_cons_zero, List.set_cons_succ, List.getElem_toArray, List.getElem_cons_zero, List.getElem_cons_succ])
        refine takeR 7 ?_
        (try simp only [Act.put, List.setIfInBounds_toArray, List.set_cons_zero, List.set_cons_succ, List.getElem_toArray, List.getElem_cons_zero, List.getElem_cons_succ])
        refine wpAnyH_ready (rs := [8]) (by kernel_rfl) (by simp) ?_
        refine AllReadyH.cons rfl (fun K hK => ?_) AllReadyH.nil
        go_simp
        (go_at_call 82; (with_reducible refine (HCN.out _ (up_drew HU2.out)).mono ?_); rintro e' w1 ⟨rfl, hup1⟩; have HC1 := Az.mk (up_trans (up_drew HU2.out) hup1); have HD1 := Az.mk (up_trans (up_drew (up_refl wr)) hup1); have hs1 : w1.cell? ⟨g, q, none⟩ = some (.int .i32 d) ∧ w1.cell? ⟨g, k2, none⟩ = some (.int .i32 a) := ⟨up_cell HD1.out HY1.out, up_cell HD1.out HY2.out⟩; clear hup1)
        refine hK.out _ _ hs1 (fun hHeld => ?_)
        clear hK K
        (try simp only [Act.put, List.setIfInBounds_toArray, List.set_cons_zero, List.set_cons_succ, List.getElem_toArray, List.getElem_cons_zero, List.getElem_cons_succ])
        refine takeR 9 ?_
        (try simp only [Act.put, List.setIfInBounds_toArray, List.set_cons_zero, List.set_cons_succ, List.getElem_toArray, List.getElem_cons_zero, List.getElem_cons_succ])
        refine takeR 10 ?_
        (try simp only [Act.put, List.setIfInBounds_toArray, List.set_cons_zero, List.set_cons_succ, List.getElem_toArray, List.getElem_cons_zero, List.getElem_cons_succ])
        refine takeR 11 ?_
        (try simp only [Act.put, List.setIfInBounds_toArray, List.set_cons_zero, List.set_cons_succ, List.getElem_toArray, List.getElem_cons_zero, List.getElem_cons_succ])
        refine takeS 12 ?_
        (try simp only [Act.put, List.setIfInBounds_toArray, List.set_cons_zero, List.set_cons_succ, List.getElem_toArray, List.getElem_cons_zero, List.getElem_cons_succ])
        refine takeS 13 ?_
        (try simp only [Act.put, List.setIfInBounds_toArray, List.set_cons_zero, List.set_cons_succ, List.getElem_toArray, List.getElem_cons_zero, List.getElem_cons_succ])
        refine takeS 14 ?_
        (try simp only [Act.put, List.setIfInBounds_toArray, List.set_cons_zero, List.set_cons_succ, List.getElem_toArray, List.getElem_cons_zero, List.getElem_cons_succ])
        refine takeS 15 ?_
        (try simp only [Act.put, List.setIfInBounds_toArray, List.set_cons_zero, List.set_cons_succ, List.getElem_toArray, List.getElem_cons_zero, List.getElem_cons_succ])
        refine takeS 16 ?_
        (try simp only [Act.put, List.setIfInBounds_toArray, List.set_cons_zero, List.set_cons_succ, List.getElem_toArray, List.getElem_cons_zero, List.getElem_cons_succ])
        refine takeS 17 ?_
        (try simp only [Act.put, List.setIfInBounds_toArray, List.set_cons_zero, List.set_cons_succ, List.getElem_toArray, List.getElem_cons_zero, List.getElem_cons_succ])
        refine takeS 18 ?_
        (try simp only [Act.put, List.setIfInBounds_toArray, List.set_cons_zero, List.set_cons_succ, List.getElem_toArray, List.getElem_cons_zero, List.getElem_cons_succ])
        refine takeS 19 ?_
        (try simp only [Act.put, List.setIfInBounds_toArray, List.set_cons_zero, List.set_cons_succ, List.getElem_toArray, List.getElem_cons_zero, List.getElem_cons_succ])
        refine takeS 20 ?_
        (try simp only [Act.put, List.setIfInBounds_toArray, List.set_cons_zero, List.set_cons_succ, List.getElem_toArray, List.getElem_cons_zero, List.getElem_cons_succ])
        refine takeS 21 ?_
        (try simp only [Act.put, List.setIfInBounds_toArray, List.set_cons_zero, List.set_cons_succ, List.getElem_toArray, List.getElem_cons_zero, List.getElem_cons_succ])
        refine takeS 22 ?_
        (try simp only [Act.put, List.setIfInBounds_toArray, List.set_cons_zero, List.set_cons_succ, List.getElem_toArray, List.getElem_cons_zero, List.getElem_cons_succ])
        refine takeS 23 ?_
        (try simp only [Act.put, List.setIfInBounds_toArray, List.set_cons_zero, List.set_cons_succ, List.getElem_toArray, List.getElem_cons_zero, List.getElem_cons_succ])
        refine takeS 24 ?_
        (try simp only [Act.put, List.setIfInBounds_toArray, List.set_cons_zero, List.set_cons_succ, List.getElem_toArray, List.getElem_cons_zero, List.getElem_cons_succ])
        refine takeS 25 ?_
        (try simp only [Act.put, List.setIfInBounds_toArray, List.set_cons_zero, List.set_cons_succ, List.getElem_toArray, List.getElem_cons_zero, List.getElem_cons_succ])
        refine takeR 26 ?_
        (try simp only [Act.put, List.setIfInBounds_toArray, List.set_cons_zero, List.set_cons_succ, List.getElem_toArray, List.getElem_cons_zero, List.getElem_cons_succ])
        refine wpAnyH_done (by kernel_rfl) ?_ _
        go_wp2
        go_roundg k
        case measure => omega
        case rel => exact NX.out _ (own_up HO2.out HD1.out) HC1.out HRL2.out HL2.out
       ·have e0 : (e == 0) = false := bqf he0
        have e1 : (e != 0) = true := bne_iff_ne.mpr he0
        by_cases hgt : b > e
        ·have g1 : decide (b > e) = true := dTz hgt
         have g2 : decide (e < b) = true := dTz hgt
         have HST : Az (∃ P' B', Mid cl ((L2.set q a).set k2 d) k2 d N (x.drop (i + 1)) P' B') := ⟨by
          rw [← HQ.out, ← HA.out]
          exact HM2.out.step (by rw [HE.out]; exact he0) (by rw [HA.out, HB.out, HE.out]; exact hgt)⟩
         clear he0 hgt
         go_wp2
         go_region_held3 (fun w' => w'.cell? ⟨g, q, none⟩ = some (.int .i32 d) ∧ w'.cell? ⟨g, k2, none⟩ = some (.int .i32 a)) (first | exact hs0 | exact hs1 | exact hs2 | exact hs3) (first | (go_at_call 82; (with_reducible refine (HCN.out _ HC2.out).mono ?_); rintro e' w5 ⟨rfl, hup5⟩; have HC3 := Az.mk (up_trans HC2.out hup5); have HD3 := Az.mk (up_trans HD2.out hup5); have hs3 : w5.cell? ⟨g, q, none⟩ = some (.int .i32 d) ∧ w5.cell? ⟨g, k2, none⟩ = some (.int .i32 a) := ⟨up_cell HD3.out HY1.out, up_cell HD3.out HY2.out⟩; clear hup5) | (go_at_call 82; (with_reducible refine (HCA.out _ HC1.out).mono ?_); rintro e' w4 ⟨rfl, hup4⟩; have HC2 := Az.mk (up_trans HC1.out hup4); have HD2 := Az.mk (up_trans HD1.out hup4); have hs2 : w4.cell? ⟨g, q, none⟩ = some (.int .i32 d) ∧ w4.cell? ⟨g, k2, none⟩ = some (.int .i32 a) := ⟨up_cell HD2.out HY1.out, up_cell HD2.out HY2.out⟩; clear hup4) | (go_at_call 82; (with_reducible refine (HCN.out _ (up_drew HU2.out)).mono ?_); rintro e' w1 ⟨rfl, hup1⟩; have HC1 := Az.mk (up_trans (up_drew HU2.out) hup1); have HD1 := Az.mk (up_trans (up_drew (up_refl wr)) hup1); have hs1 : w1.cell? ⟨g, q, none⟩ = some (.int .i32 d) ∧ w1.cell? ⟨g, k2, none⟩ = some (.int .i32 a) := ⟨up_cell HD1.out HY1.out, up_cell HD1.out HY2.out⟩; clear hup1))
         have HO5 := Az.mk (own_up HO2.out HD3.out)
         have z1 : w5.cell? ⟨g, q, none⟩ = some (.int .i32 d) := hs3.1
         have z2 : w5.cell? ⟨g, k2, none⟩ = some (.int .i32 a) := hs3.2
         have z3 := (own_at HO5.out HLQ.out).2
         have z4 := (own_at HO5.out HL22.out).2
         have HP5 := Az.mk (own_put (own_put HO5.out q a) k2 d)
         have HU5 : Az (Up w ((w5.setCell ⟨g, q, none⟩ (.int .i32 a)).setCell ⟨g, k2, none⟩ (.int .i32 d))) := ⟨(HC3.out.setCell HGE.out _).setCell HGE.out _⟩
         have hne : q ≠ k2 := by have := HQ.out; omega
         have hne2 : k2 ≠ q := by have := HQ.out; omega
         clear y1 y2 yf1 yf2 hs0 hs1 hs2 hs3 q0 q00
         go_wp2
         go_roundg k2
         case measure => omega
         case rel =>
          obtain ⟨P', B', hm⟩ := HST.out
          exact ⟨_, P', B', rfl, ⟨by simp [HL2.out]⟩, ⟨hm⟩, ⟨inI32_set (inI32_set HRL2.out HAR.out) HDR.out⟩, HP5, HU5⟩
        ·have g1 : decide (b > e) = false := dFz hgt
         have g2 : decide (e < b) = false := dFz hgt
         have ee := HM2.out.done (.inr (.inr (by rw [show k2 + 1 - 1 = k2 by omega, HA.out, HB.out, HE.out]; exact hgt)))
         subst ee
         clear he0 hgt
         go_wp2
         go_region_held3 (fun w' => w'.cell? ⟨g, q, none⟩ = some (.int .i32 d) ∧ w'.cell? ⟨g, k2, none⟩ = some (.int .i32 a)) (first | exact hs0 | exact hs1 | exact hs2 | exact hs3) (first | (go_at_call 82; (with_reducible refine (HCN.out _ HC2.out).mono ?_); rintro e' w5 ⟨rfl, hup5⟩; have HC3 := Az.mk (up_trans HC2.out hup5); have HD3 := Az.mk (up_trans HD2.out hup5); have hs3 : w5.cell? ⟨g, q, none⟩ = some (.int .i32 d) ∧ w5.cell? ⟨g, k2, none⟩ = some (.int .i32 a) := ⟨up_cell HD3.out HY1.out, up_cell HD3.out HY2.out⟩; clear hup5) | (go_at_call 82; (with_reducible refine (HCA.out _ HC1.out).mono ?_); rintro e' w4 ⟨rfl, hup4⟩; have HC2 := Az.mk (up_trans HC1.out hup4); have HD2 := Az.mk (up_trans HD1.out hup4); have hs2 : w4.cell? ⟨g, q, none⟩ = some (.int .i32 d) ∧ w4.cell? ⟨g, k2, none⟩ = some (.int .i32 a) := ⟨up_cell HD2.out HY1.out, up_cell HD2.out HY2.out⟩; clear hup4) | (go_at_call 82; (with_reducible refine (HCN.out _ (up_drew HU2.out)).mono ?_); rintro e' w1 ⟨rfl, hup1⟩; have HC1 := Az.mk (up_trans (up_drew HU2.out) hup1); have HD1 := Az.mk (up_trans (up_drew (up_refl wr)) hup1); have hs1 : w1.cell? ⟨g, q, none⟩ = some (.int .i32 d) ∧ w1.cell? ⟨g, k2, none⟩ = some (.int .i32 a) := ⟨up_cell HD1.out HY1.out, up_cell HD1.out HY2.out⟩; clear hup1))
         go_wp2
         go_roundg k
         case measure => omega
         case rel => exact NX.out _ (own_up HO2.out HD3.out) HC3.out HRL2.out HL2.out
theorem RNFD12_calls (hT : TabAt w At T) (ct : Nat) (A : Option Addr) (c : Nat) (x : List Int) (hI : Ints .i32 w A x) (hr : InI32 x) (hx : x.length ≤ 100000) (ys : List Int) (hys : sortF T (openX T x) = ys) :
 Calls Tryz.prog 34 #[.slice At T.length ct, .slice A x.length c] w (RetRow ys w) := by
 obtain ⟨q, hq⟩ : ∃ q, openX T x = q := ⟨_, rfl⟩
 have HQ := Az.mk hq
 have HQR : Az (InI32 q) := ⟨by rw [← hq]; exact openX_range hT.fine hT.fine.wf hr⟩
 have HQL : Az (q.length ≤ 100000000) := ⟨by rw [← hq]; have := openX_len hT.fine x; omega⟩
 rw [hq] at hys
 have HYS := Az.mk hys
 have HO := Az.mk (ROpen12_calls hT ct A c x hI hr hx q hq)
 have HT := Az.mk hT
 clear hT hI hr hx hq hys
 go_enter Tryz.func34, Tryz.ntmps34
 go_wp2_with (first | (go_at_call 32; (with_reducible refine HO.out.mono ?_); rintro e w1 ⟨v1, rfl, hown1, hup1⟩; obtain ⟨A1, c1, hv1, hi1, _⟩ := own_ints hown1; subst hv1; have HU1 := Az.mk hup1; have HI1 := Az.mk hi1; clear hown1 hup1 hi1) |
  (go_at_call 33; (with_reducible refine (RSort12_calls (HT.out.up HU1.out) ct A1 c1 q HI1.out HQR.out HQL.out ys HYS.out).mono ?_); rintro e w2 ⟨v2, rfl, hown2, hup2⟩))
 go_ret
 exact ⟨_, rfl, own_base hown2 HU1.out.size, up_trans HU1.out hup2⟩
theorem RSorted12_calls (hT : TabAt w At T) (ct : Nat) (A : Option Addr) (c : Nat) (x : List Int) (hI : Ints .i32 w A x) (hr : InI32 x) (hx : x.length ≤ 100000000) (b : Bool) (hb : sortedG (numF T 2 (·.n)) 0 x = b) :
 Calls Tryz.prog 36 #[.slice At T.length ct, .slice A x.length c] w fun e w' => e = .returned (.bool b) ∧ Up w w' := by
 obtain ⟨cl, hcl⟩ : ∃ cl, numF T 2 (·.n) = cl := ⟨_, rfl⟩
 have HCL := Az.mk hcl
 have HP : Az (∀ z, 0 ≤ cl z) := ⟨by rw [← hcl]; exact hp_of hT.fine.toGood⟩
 have HB : Az (sortedG cl 0 x = b) := ⟨by rw [← hcl]; exact hb⟩
 have HT := Az.mk hT
 have HX := Az.mk hI
 have HR := Az.mk hr
 have HXL := Az.mk hx
 obtain ⟨n, hn⟩ : ∃ n, x.length = n := ⟨_, rfl⟩
 have HN := Az.mk hn
 rw [hn]
 clear hT hI hr hb hx hcl hn
 go_enter Tryz.func36, Tryz.ntmps36
 go_wp2
 go_loopg [5, 6] (n - 1) (fun k v5 v6 wr => ∃ (i : Nat), v5 = .int .i64 i ∧ Az (1 ≤ i ∧ i + k = n - 1 + 1) ∧ Az (sortedG cl (cl (rd x ((i - 1 : Nat) : Int))) (x.drop i) = b) ∧ Az (Up w wr))
 case atStart =>
  refine ⟨1, rfl, ⟨Nat.le_refl _, by omega⟩, ⟨?_⟩, ⟨up_refl _⟩⟩
  rw [← HB.out]
  cases x with
  | nil => rfl
  | cons a t =>
    show sortedG cl (cl a) t = sortedG cl 0 (a :: t)
    rw [sortedG, if_neg (fun h => by have := h.2; have := HP.out a; omega)]
 case round =>
  obtain ⟨i, rfl, HI, HS, HU⟩ := hrel
  cases gk with
  | zero =>
    have hlt : decide ((i : Int) < (n : Int)) = false := dFz (by have := HI.out; omega)
    have hlt1 : ¬ (i < n) := by have := HI.out; omega
    go_wp2
    go_ret
    have e := HS.out
    rw [List.drop_eq_nil_of_le (by have := HN.out; omega)] at e
    exact ⟨by rw [← e]; rfl, HU.out⟩
  | succ k =>
    have hi : i < n := by have := HI.out; omega
    have hlt : decide ((i : Int) < (n : Int)) = true := dTz (by omega)
    have z1 : (i : Int) < (n : Int) := by omega
    have hix : i < x.length := by rw [HN.out]; exact hi
    obtain ⟨ad, hA, y1⟩ := HX.out.at_ i (by omega) (by omega)
    obtain ⟨ad', hA', y1'⟩ := HX.out.at_ ((i - 1 : Nat) : Int) (by omega) (by omega)
    rw [hA] at hA'
    cases hA'
    rw [Int.toNat_natCast] at y1 y1'
    have y2 := up_cell HU.out y1
    have y3 := up_cell HU.out y1'
    subst hA
    obtain ⟨d, hd⟩ : ∃ d, rd x (i : Int) = d := ⟨_, rfl⟩
    obtain ⟨a, ha⟩ : ∃ a, rd x ((i - 1 : Nat) : Int) = a := ⟨_, rfl⟩
    obtain ⟨j, hj⟩ : ∃ j, i - 1 = j := ⟨_, rfl⟩
    have HA := Az.mk ha
    have HDR : Az (-2147483648 ≤ d ∧ d ≤ 2147483647) := ⟨by rw [← hd]; exact HR.out.rd i hix⟩
    have HAR : Az (-2147483648 ≤ a ∧ a ≤ 2147483647) := ⟨by rw [← ha]; exact HR.out.rd (i - 1) (by omega)⟩
    rw [hd] at y2
    rw [ha, hj] at y3
    have hw1 : wrap64 ((i : Int) - 1) = (j : Int) := by have := HXL.out; have := HN.out; have := HI.out; unfold wrap64; omega
    have hw2 : IntKind.i64.wrap ((i : Int) - 1) = (j : Int) := by have := HXL.out; have := HN.out; have := HI.out; rw [IntKind.wrap_i64]; omega
    have m1 : 0 ≤ (j : Int) := by omega
    have m2 : (j : Int) < (n : Int) := by omega
    have hni : (i : Int) < 100000000 := by have := HXL.out; have := HN.out; omega
    obtain ⟨e, he⟩ : ∃ e, cl d = e := ⟨_, rfl⟩
    obtain ⟨b', hb'⟩ : ∃ b', cl a = b' := ⟨_, rfl⟩
    have HE := Az.mk he
    have HB' := Az.mk hb'
    have HDRP : Az (x.drop i = d :: x.drop (i + 1)) := ⟨by rw [List.drop_eq_getElem_cons hix, ← hd, rd_elem x i hix]⟩
    have HRD := Az.mk hd
    have HCN : Az (∀ W, Up w W → Calls Tryz.prog 82 #[.slice At T.length ct, .int .i32 d] W fun e' w' => e' = .returned (.int .i64 e) ∧ Up W w') := ⟨fun W hW => (HT.out.up hW).Class ct d e (by rw [HCL.out]; exact HE.out) HDR.out⟩
    have HCA : Az (∀ W, Up w W → Calls Tryz.prog 82 #[.slice At T.length ct, .int .i32 a] W fun e' w' => e' = .returned (.int .i64 b') ∧ Up W w') := ⟨fun W hW => (HT.out.up hW).Class ct a b' (by rw [HCL.out]; exact HB'.out) HAR.out⟩
    have NX : Az (∀ W, ¬ (e ≠ 0 ∧ b' > e) → Up w W → ∃ i' : Nat, Value.int .i64 ((i : Int) + 1) = .int .i64 i' ∧ Az (1 ≤ i' ∧ i' + k = n - 1 + 1) ∧ Az (sortedG cl (cl (rd x ((i' - 1 : Nat) : Int))) (x.drop i') = b) ∧ Az (Up w W)) := ⟨fun W h1 h2 => ⟨i + 1, rfl, ⟨by omega, by have := HI.out; omega⟩, ⟨by
     have e1 := HS.out
     rw [HDRP.out, sortedG, HA.out, HB'.out, HE.out, if_neg h1] at e1
     rw [Nat.add_sub_cancel, HRD.out, HE.out]
     exact e1⟩, ⟨h2⟩⟩⟩
    have YES : Az (e ≠ 0 → b' > e → false = b) := ⟨fun h1 h2 => by
     have e1 := HS.out
     rw [HDRP.out, sortedG, HA.out, HB'.out, HE.out, if_pos ⟨h1, h2⟩] at e1
     exact e1⟩
    have HY3 := Az.mk y3
    clear hd ha hj he hb' y1 y1' hix
    by_cases he0 : e = 0
    ·have e0 : (e == 0) = true := beq_iff_eq.mpr he0
     have e1 : (e != 0) = false := by rw [bne, e0]; rfl
     have HE0 := Az.mk he0
     clear he0
     go_wp2_with (first | (go_at_call 82; (with_reducible refine (HCN.out _ HU.out).mono ?_); rintro e' w1 ⟨rfl, hup1⟩; have HC1 := Az.mk (up_trans HU.out hup1); have y4 := up_cell hup1 HY3.out; clear hup1))
     go_roundg k
     case measure => omega
     case rel => exact NX.out _ (fun h => h.1 HE0.out) HC1.out
    ·have e0 : (e == 0) = false := bqf he0
     have e1 : (e != 0) = true := bne_iff_ne.mpr he0
     have HE0 := Az.mk he0
     clear he0
     by_cases hgt : b' > e
     ·have g1 : decide (b' > e) = true := dTz hgt
      have hbb := Az.mk (YES.out HE0.out hgt)
      clear hgt
      go_wp2_with (first | (go_at_call 82; (with_reducible refine (HCA.out _ HC1.out).mono ?_); rintro e' w4 ⟨rfl, hup4⟩; have HC2 := Az.mk (up_trans HC1.out hup4); clear hup4) | (go_at_call 82; (with_reducible refine (HCN.out _ HU.out).mono ?_); rintro e' w1 ⟨rfl, hup1⟩; have HC1 := Az.mk (up_trans HU.out hup1); have y4 := up_cell hup1 HY3.out; clear hup1))
      go_ret
      exact ⟨congrArg (fun z => Ending.returned (.bool z)) hbb.out, HC2.out⟩
     ·have g1 : decide (b' > e) = false := dFz hgt
      have g2 : decide (e < b') = false := dFz hgt
      have HGT := Az.mk hgt
      clear hgt
      go_wp2_with (first | (go_at_call 82; (with_reducible refine (HCA.out _ HC1.out).mono ?_); rintro e' w4 ⟨rfl, hup4⟩; have HC2 := Az.mk (up_trans HC1.out hup4); clear hup4) | (go_at_call 82; (with_reducible refine (HCN.out _ HU.out).mono ?_); rintro e' w1 ⟨rfl, hup1⟩; have HC1 := Az.mk (up_trans HU.out hup1); have y4 := up_cell hup1 HY3.out; clear hup1))
      go_roundg k
      case measure => omega
      case rel => exact NX.out _ (fun h => absurd h.2 (by have := HGT.out; omega)) HC2.out
end
end Go.Proofs.YtnohcnneflogjaaGreat.M.St
