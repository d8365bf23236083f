/- The document's Map (15.2), walked. -/
import Derived.Test.YthneeainigdmhaaGreatPOne15
import Derived.Test.YthneeainigdmhaaGreatPJoin1
set_option linter.unusedVariables false
set_option linter.unusedSimpArgs false
namespace Go.Proofs.YthneeainigdmhaaGreat.M
open Go.RowKit
set_option maxHeartbeats 8000000
set_option maxRecDepth 100000

/-- What a sequence is mapped to (15.2). -/
def mapsF (T : List Rec) (fl : Int) (x : List Int) : List Int := x.flatMap (oneF T fl)
theorem maps_step (T : List Rec) (fl : Int) (x : List Int) (i : Nat) (h : i < x.length) : mapsF T fl (x.take (i + 1)) = mapsF T fl (x.take i) ++ oneF T fl (rd x i) := by
  unfold mapsF
  rw [List.take_add_one, List.getElem?_eq_getElem h, Option.toList_some, List.flatMap_append, rd_elem x i h]
  simp
theorem maps_take_le (T : List Rec) (fl : Int) (x : List Int) (i : Nat) : (mapsF T fl (x.take i)).length ≤ (mapsF T fl x).length := by
  have e : mapsF T fl x = mapsF T fl (x.take i) ++ mapsF T fl (x.drop i) := by
    unfold mapsF
    rw [← List.flatMap_append, List.take_append_drop]
  rw [e, List.length_append]
  omega
/-- What Map of the document hands back, where there is room. -/
def RetRowOk (l : List Int) (w : World) (e : Ending) (w' : World) : Prop := ∃ v, e = .returned (.tuple #[v, .bool true]) ∧ w'.ownsRow w.heap.size 21 1 v l.length (l.map (Value.int .i32)) ∧ Up w w'
theorem RMap15_calls (At : Option Addr) (ct : Nat) (T : List Rec) (A : Option Addr) (c : Nat) (x : List Int) (fl : Int) (w : World) (hT : Table w At T) (hR : ∀ x ∈ T, Right x) (hW : ∀ x ∈ T, x.Wf) (hl : T.length ≤ 4096) (hI : Ints .i32 w A x) (hx : x.length < 4611686018427387904) (hwf : ∀ z ∈ x, (Lit.int .i32 z).wf = true) (r : List Int) (hr : mapsF T fl x = r) (hrl : r.length ≤ 65536) :
    Calls Tryz.prog 64 #[.slice At T.length ct, .slice A x.length c, .int .i64 fl] w (RetRowOk r w) := by
  have HT := Aside0.mk hT
  have HRT := Aside0.mk hR
  have HW := Aside0.mk hW
  have HTL := Aside0.mk hl
  have HI := Aside0.mk hI
  have HX := Aside0.mk hx
  have HWF := Aside0.mk hwf
  have HR := Aside0.mk hr
  have HRL := Aside0.mk hrl
  obtain ⟨ie, ze, hie, hze, hsi, hby, hzc⟩ := i32_info
  clear hT hR hW hl hI hx hwf hr hrl
  go_enter Tryz.func64, Tryz.ntmps64
  go_wp2
  go_loopg [8, 9] x.length (fun k v8 v9 w' => ∃ (i : Nat) (q : List Int) (A8 : Option Addr) (c8 : Nat), v8 = .slice A8 q.length c8 ∧ v9 = .int .i64 i ∧ Aside0 (i + k = x.length ∧ mapsF T fl (x.take i) = q) ∧ Aside0 (w'.ownsRow w.heap.size 21 1 (.slice A8 q.length c8) q.length (q.map (Value.int .i32))) ∧ Aside0 (Up w w'))
  case atStart => exact ⟨0, [], none, 0, rfl, rfl, ⟨Nat.zero_add _, rfl⟩, ⟨World.ownsRow_nil _ _ _ _⟩, ⟨up_refl _⟩⟩
  case round =>
    obtain ⟨i, q, A8, c8, rfl, rfl, HN, HO, HB⟩ := hrel
    cases gk with
    | zero =>
      have hlt : decide ((i : Int) < (x.length : Int)) = false := decide_eq_false (by have := HN.out; omega)
      have hlt1 : ¬ (i < x.length) := by have := HN.out; omega
      have hq : q = r := by rw [← HN.out.2, List.take_of_length_le (by omega)]; exact HR.out
      subst hq
      go_wp2
      go_ret2
      exact ⟨_, rfl, HO.out, HB.out⟩
    | succ k =>
      have hlt : decide ((i : Int) < (x.length : Int)) = true := decide_eq_true (by have := HN.out; omega)
      have hlt1 : i < x.length := by have := HN.out; omega
      have hxl : x.length < 4611686018427387904 := HX.out
      have h7 : 0 ≤ (i : Int) := by omega
      have h9 : (i : Int) < (x.length : Int) := by omega
      obtain ⟨ad, hA, hc⟩ := HI.out.at_ i h7 h9
      rw [Int.toNat_natCast] at hc
      replace hc := up_cell HB.out hc
      subst hA
      have HAR : Aside0 (-2147483648 ≤ rd x i ∧ rd x i ≤ 2147483647) := ⟨rd_wf HWF.out i⟩
      have HS : Aside0 (mapsF T fl (x.take (i + 1)) = q ++ oneF T fl (rd x i)) := ⟨by rw [maps_step _ _ _ _ hlt1, HN.out.2]⟩
      have HSL : Aside0 ((q ++ oneF T fl (rd x i)).length ≤ 65536) := ⟨by rw [← HS.out]; exact Nat.le_trans (maps_take_le _ _ _ _) (by rw [HR.out]; exact HRL.out)⟩
      obtain ⟨a, ha⟩ : ∃ a, rd x i = a := ⟨_, rfl⟩
      rw [ha] at hc HAR HS HSL
      obtain ⟨p, hp⟩ : ∃ p, oneF T fl a = p := ⟨_, rfl⟩
      have HP := Aside0.mk hp
      rw [hp] at HS HSL
      have HLEN : Aside0 (q.length + p.length ≤ maxLen ∧ (q.length + p.length) * 4 ≤ 140737488355328) := ⟨by have := HSL.out; rw [List.length_append] at this; unfold maxLen; omega⟩
      have hgt : ¬ ((65536 : Int) < ((q ++ p).length : Int)) := by have := HSL.out; omega
      have hgt2 : ¬ ((65536 : Int) < (q.length : Int) + (p.length : Int)) := by have := HSL.out; rw [List.length_append] at this; omega
      have hgt3 : ¬ (65536 < q.length + p.length) := by have := HSL.out; rw [List.length_append] at this; omega
      clear ha hp
      go_wp2_with (first | (go_at_call 68; (with_reducible refine (ROne_calls At ct T a fl _ (HT.out.up HB.out) HRT.out HW.out HTL.out p HP.out HAR.out.1 HAR.out.2).mono ?_); rintro e w2 ⟨v2, rfl, hown2, hup2⟩; obtain ⟨A2, c2, rfl, hi2, _⟩ := own_ints hown2; have HB2 := Aside0.mk (up_trans HB.out hup2); have HI2 := Aside0.mk hi2; have HO2 := Aside0.mk (own_up HO.out hup2); clear hown2 hup2 hi2) | (at_builtin; refine (wpList_append_row _ rfl _ _ 23 rfl w.heap.size 21 ie ze 1 4 Tryz.underlying23 hie hze hsi hby hzc (by decide) (.slice A8 q.length c8) q.length (q.map (Value.int .i32)) rfl HO2.out A2 p.length c2 (p.map (Value.int .i32)) rfl (by simp) HI2.out (ints_one .i32 p) ?ha6 ?hb6 ?hc6 ?_); (case ha6 => exact HLEN.out.1); (case hb6 => exact HLEN.out.2); (case hc6 => exact HB2.out.size); intro v6 w6 hown6 hgrow6 hat6; have HO6 : Aside0 (w6.ownsRow w.heap.size 21 1 v6 (q ++ p).length ((q ++ p).map (Value.int .i32))) := ⟨by rw [List.length_append, List.map_append]; exact hown6⟩; obtain ⟨A6, c6, hv6⟩ := own_any HO6.out; subst hv6; have HB6 := Aside0.mk (HB2.out.grown hgrow6 HB2.out.size (fun k hk => (HO2.out.lt k hk).1)); clear hown6 hgrow6 hat6))
      go_roundg k
      case measure => have := HN.out; omega
      case rel => exact ⟨i + 1, q ++ p, A6, c6, by rw [List.length_append], rfl, ⟨by have := HN.out; omega, HS.out⟩, HO6, HB6⟩
end Go.Proofs.YthneeainigdmhaaGreat.M
