/- remap.Settled and endonymlaw15.told, walked. (printed by mkremap.py) -/
import Derived.Test.YthneeainigdmhaaGreatPMap15
import Derived.Test.YthneeainigdmhaaGreatK35
set_option linter.unusedVariables false
set_option linter.unusedSimpArgs false
namespace Go.Proofs.YthneeainigdmhaaGreat.M
open Go.RowKit
set_option maxHeartbeats 16000000
set_option maxRecDepth 100000

/-- Map, where there is room. -/
def RetMapOk (r : List Int) (w : World) (e : Ending) (w' : World) : Prop := ∃ v, e = .returned (.tuple #[v, .int .i64 0]) ∧ w'.ownsRow w.heap.size 21 1 v r.length (r.map (Value.int .i32)) ∧ Up w w'
theorem Map_ok {H : Nat} {w : World} {bd : Nat} {D : DataV} {T : List Rec} (hD : DataAt H w bd D T) (hG : Good T) (A : Option Addr) (c : Nat) (x : List Int) (n : Nat) (hn : x.length = n) (fl : Int) (hI : Ints .i32 w A x) (hx : n ≤ 100000) (hwf : ∀ z ∈ x, (Lit.int .i32 z).wf = true) (r : List Int) (hr : mapsF T fl x = r) (hrl : r.length ≤ 65536) :
    Calls Tryz.prog 63 #[.pointer (some ⟨bd, 0, none⟩), .slice A n c, .int .i64 fl] w (RetMapOk r w) := by
  subst hn
  refine (Map_calls hD hG A c x fl hI hx hwf r hr).mono ?_
  rintro e w' ⟨hu, ⟨_, v, he, ho⟩ | ⟨hl, _⟩⟩
  · exact ⟨v, he, ho, hu⟩
  · exact absurd hrl (by omega)
theorem Map_long {H : Nat} {w : World} {bd : Nat} {D : DataV} {T : List Rec} (hD : DataAt H w bd D T) (hG : Good T) (A : Option Addr) (c : Nat) (x : List Int) (n : Nat) (hn : x.length = n) (fl : Int) (hI : Ints .i32 w A x) (hx : n ≤ 100000) (hwf : ∀ z ∈ x, (Lit.int .i32 z).wf = true) (hrl : 65536 < (mapsF T fl x).length) :
    Calls Tryz.prog 63 #[.pointer (some ⟨bd, 0, none⟩), .slice A n c, .int .i64 fl] w fun e w' => e = .returned (.tuple #[.slice none 0 0, .int .i64 2]) ∧ Up w w' := by
  subst hn
  refine (Map_calls hD hG A c x fl hI hx hwf _ rfl).mono ?_
  rintro e w' ⟨hu, ⟨hl, _⟩ | ⟨_, he⟩⟩
  · exact absurd hrl (by omega)
  · exact ⟨he, hu⟩
theorem Settled_calls {H : Nat} {w : World} {bd : Nat} {D : DataV} {T : List Rec} (hD : DataAt H w bd D T) (hG : Good T) (A : Option Addr) (c : Nat) (x : List Int) (n : Nat) (hn : x.length = n) (fl : Int) (hI : Ints .i32 w A x) (hx : n ≤ 100000) (hwf : ∀ z ∈ x, (Lit.int .i32 z).wf = true) (r : List Int) (hr : mapsF T fl x = r) (hrl : r.length ≤ 65536) (b : Bool) (hb : (x == r) = b) :
    Calls Tryz.prog 65 #[.pointer (some ⟨bd, 0, none⟩), .slice A n c, .int .i64 fl] w fun e w' => e = .returned (.bool b) ∧ Up w w' := by
  subst hn
  have HC := Aside0.mk (Map_ok hD hG A c x _ rfl fl hI hx hwf r hr hrl)
  have HI := Aside0.mk hI
  have HX := Aside0.mk hx
  have HRL := Aside0.mk hrl
  have HB := Aside0.mk hb
  clear hD hG hI hx hwf hr hrl hb
  go_enter Tryz.func65, Tryz.ntmps65
  go_wp2_with (first | (go_at_call 63; (with_reducible refine HC.out.mono ?_); rintro e w1 ⟨v1, rfl, hown1, hup1⟩; obtain ⟨A1, c1, rfl, hi1, _⟩ := own_ints hown1; have HU1 := Aside0.mk hup1; have HI1 := Aside0.mk hi1; clear hown1 hup1 hi1) | (go_at_call 107; (with_reducible refine (Equal_calls A A1 c c1 x r _ (HI.out.up HU1.out) HI1.out (Nat.le_trans HX.out (by decide)) (Nat.le_trans HRL.out (by decide)) b HB.out).mono ?_); rintro e w2 ⟨rfl, hup2⟩))
  go_ret
  exact ⟨rfl, up_trans HU1.out hup2⟩
theorem Settled_long {H : Nat} {w : World} {bd : Nat} {D : DataV} {T : List Rec} (hD : DataAt H w bd D T) (hG : Good T) (A : Option Addr) (c : Nat) (x : List Int) (n : Nat) (hn : x.length = n) (fl : Int) (hI : Ints .i32 w A x) (hx : n ≤ 100000) (hwf : ∀ z ∈ x, (Lit.int .i32 z).wf = true) (hrl : 65536 < (mapsF T fl x).length) :
    Calls Tryz.prog 65 #[.pointer (some ⟨bd, 0, none⟩), .slice A n c, .int .i64 fl] w fun e w' => e = .returned (.bool false) ∧ Up w w' := by
  subst hn
  have HC := Aside0.mk (Map_long hD hG A c x _ rfl fl hI hx hwf hrl)
  clear hD hG hI hx hwf hrl
  go_enter Tryz.func65, Tryz.ntmps65
  go_wp2_with (first | (go_at_call 63; (with_reducible refine HC.out.mono ?_); rintro e w1 ⟨rfl, hup1⟩))
  go_ret
  exact ⟨rfl, hup1⟩
def rx : List Int := [65, 98, 63]
def ry : List Int := [97, 98, 63]
theorem rx_wf : ∀ z ∈ rx, (Lit.int .i32 z).wf = true := by decide
theorem ry_wf : ∀ z ∈ ry, (Lit.int .i32 z).wf = true := by decide
theorem littleT_good : Good littleT := (fine_of littleT_wf littleT_fine).toGood
theorem rx_maps : mapsF littleT 0 rx = ry := by decide +kernel
theorem ry_maps : mapsF littleT 0 ry = ry := by decide +kernel
theorem rx_box (W : World) : W.alloc (.cells #[.int .i32 65, .int .i32 98, .int .i32 63] 21) = W.alloc (.cells (rx.map (Value.int .i32)).toArray 21) := rfl
theorem ry_box (W : World) : W.alloc (.cells #[.int .i32 97, .int .i32 98, .int .i32 63] 21) = W.alloc (.cells (ry.map (Value.int .i32)).toArray 21) := rfl
theorem ry_len : ry.length = 3 := rfl
theorem rx_ints {w w0 : World} (h : w = w0.alloc (.cells (rx.map (Value.int .i32)).toArray 21)) : Ints .i32 w (some ⟨w0.heap.size, 0, none⟩) rx := by
  subst h
  exact ints_new w0 rx
theorem ry_ints {w w0 : World} (h : w = w0.alloc (.cells (ry.map (Value.int .i32)).toArray 21)) : Ints .i32 w (some ⟨w0.heap.size, 0, none⟩) ry := by
  subst h
  exact ints_new w0 ry
theorem told15_calls (w : World) : Calls Tryz.prog 61 #[] w fun e w' => e = .returned (.bool true) ∧ Up w w' := by
  go_enter Tryz.func61, Tryz.ntmps61
  go_wp2_with (first | (go_at_call 67; (with_reducible refine (One_nil _ _ _).mono ?_); rintro e w7 ⟨rfl, hw7⟩; subst hw7; have HV7 := HV6) | (go_at_call 65; (with_reducible refine (Settled_calls (HD.out.up HV5.out) littleT_good A3 c3 ry 3 rfl 0 HI5.out (by decide) ry_wf ry ry_maps (by decide) true (by decide)).mono ?_); rintro e w6 ⟨rfl, hup6⟩; have HV6 := Aside0.mk (up_trans HV5.out hup6); clear hup6) | (go_at_call 30; (with_reducible refine (SameN_calls A3 _ 3 3 c3 3 ry ry _ (HI4.out.up (up_alloc (up_refl w4) _)) (ry_ints (ry_box w4)) rfl rfl (by decide) (by decide) true (by decide)).mono ?_); rintro e w5 ⟨rfl, hup5⟩; have HV5 := Aside0.mk (up_trans HV4.out (up_trans (up_alloc (up_refl w4) _) hup5)); have HI5 := Aside0.mk (HI4.out.up (up_trans (up_alloc (up_refl w4) _) hup5)); clear hup5) | (go_at_call 63; (with_reducible refine (Map_nil _ _ _ _ _).mono ?_); rintro e w4 ⟨rfl, hup4⟩; have HV4 := Aside0.mk (up_trans HV3.out hup4); have HI4 := Aside0.mk (HI3.out.up hup4); clear hup4) | (go_at_call 63; (with_reducible refine (Map_ok (HD.out.up (up_alloc (up_refl w2) _)) littleT_good _ 3 rx 3 rfl 0 (rx_ints (rx_box w2)) (by decide) rx_wf ry rx_maps (by decide)).mono ?_); rintro e w3 ⟨v3, rfl, hown3, hup3⟩; obtain ⟨A3, c3, hv3, hi3, _⟩ := own_ints hown3; rw [ry_len] at hv3; subst hv3; have HV3 := Aside0.mk (up_trans (up_alloc (up_refl w2) _) hup3); have HI3 := Aside0.mk hi3; clear hown3 hup3 hi3) | (go_at_call 20; (with_reducible refine (Made_fine A1 n1 littleT 10 _ HT1.out.table littleT_wf HT1.out.len rfl (by decide) littleT_fine).mono ?_); rintro e w2 ⟨bd, D, A2, n2, rfl, hD, _, hup2⟩; have HD := Aside0.mk hD; have HU2 := Aside0.mk (up_trans HU1.out hup2); clear hD hup2) | (go_at_call 70; (with_reducible refine (Little_calls _).mono ?_); rintro e w1 ⟨A1, n1, rfl, hT1, hup1⟩; have HT1 := Aside0.mk hT1; have HU1 := Aside0.mk hup1; clear hT1 hup1))
  go_ret
  exact ⟨rfl, up_trans HU2.out HV7.out⟩
end Go.Proofs.YthneeainigdmhaaGreat.M
