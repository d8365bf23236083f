/- The iterator of remap.Parts has its word. -/
import Derived.Test.YthneeainigdmhaaGreatPRng
set_option linter.unusedVariables false
set_option linter.unusedSimpArgs false
namespace Go.Proofs.YthneeainigdmhaaGreat.M
open Go.RowKit
attribute [local go_sem] Oper.semAt_some
set_option maxHeartbeats 8000000
set_option maxRecDepth 100000

/-- What the iterator reads between two rounds. -/
def PartsAt (H bd b7 b3 b5 : Nat) (D : DataV) (T : List Rec) (fl : Int) (Ay : Option Addr) (cy : Nat) (x : List Int) (W : World) : Prop :=
  W.cell? ⟨b7, 0, none⟩ = some (.slice Ay x.length cy) ∧ Ints .i32 W Ay x ∧ W.cell? ⟨b3, 0, none⟩ = some (.pointer (some ⟨bd, 0, none⟩)) ∧ W.cell? ⟨b5, 0, none⟩ = some (.int .i64 fl) ∧ DataAt H W bd D T
theorem Parts1_iter (n : Nat) (hn : 1 ≤ n) (H bd b7 b3 b5 : Nat) (D : DataV) (T : List Rec) (fl : Int) (Ay : Option Addr) (cy : Nat) (x : List Int) (hG : Good T) (hwf : ∀ z ∈ x, (Lit.int .i32 z).wf = true) (hx : x.length ≤ 100000) :
    IterN Tryz.prog n 108 #[.pointer (some ⟨b7, 0, none⟩), .pointer (some ⟨b3, 0, none⟩), .pointer (some ⟨b5, 0, none⟩)] x.length (fun k v => #[.int .i32 (rd x k), v]) (fun k => oneF T fl (rd x k)) (PartsAt H bd b7 b3 b5 D T fl Ay cy x) := by
  intro l J Jx W hInv hGr hY h0
  refine callsIn_of_wp Tryz.func108 rfl trivial ?_ rfl
  obtain ⟨hc7, hIy, hc3, hc5, hD⟩ := hInv _ _ h0
  simp only [Tryz.ntmps108, List.size_toArray, List.length_cons, List.length_nil, Nat.reduceAdd, Nat.reduceSub, Array.replicate_succ, Array.replicate_zero, List.push_toArray, List.append_toArray, List.nil_append, List.cons_append]
  have HG := Aside0.mk hG
  have HWF := Aside0.mk hwf
  have HY := Aside0.mk hY
  have HINV := Aside0.mk hInv
  clear hG hwf hY hInv hIy hD
  gi_wp2
  gi_loopw [9] (fun i wr => ∃ k : Nat, k ≤ x.length ∧ i = .int .i64 k ∧ Aside0 (J k wr)) (fun i _ => x.length - (intOf i).toNat)
  case atStart => exact ⟨0, Nat.zero_le _, rfl, ⟨h0⟩⟩
  case round =>
    obtain ⟨k, hk, rfl, HJ⟩ := hrel
    obtain ⟨hd7, hIk, hd3, hd5, hDk⟩ := HINV.out _ _ HJ.out
    have HIK := Aside0.mk hIk
    have HDK := Aside0.mk hDk
    clear hIk hDk hc7 hc3 hc5
    by_cases hlt : k < x.length
    · have h7 : 0 ≤ (k : Int) := by omega
      have h9 : (k : Int) < (x.length : Int) := by omega
      obtain ⟨ad, hA, hc⟩ := HIK.out.at_ k h7 h9
      rw [Int.toNat_natCast] at hc
      subst hA
      have HAR : Aside0 (-2147483648 ≤ rd x k ∧ rd x k ≤ 2147483647) := ⟨rd_wf HWF.out k⟩
      obtain ⟨a, ha⟩ : ∃ a, rd x k = a := ⟨_, rfl⟩
      have HA := Aside0.mk ha
      rw [ha] at hc HAR
      have HGV : Aside0 (∀ (v : Value) (W0 W1 : World), World.ownsRow W1 W0.heap.size 21 1 v (oneF T fl a).length ((oneF T fl a).map (Value.int .i32)) → Given (oneF T fl (rd x k)) v W0.heap.size W1) := ⟨fun v W0 W1 h => by rw [ha]; exact h⟩
      clear ha
      gi_wp2_with (refine ⟨trivial, ?_⟩; gi_at_call 67; refine (callsIn_wide.2 (One_calls HDK.out HG.out a fl _ rfl HAR.out.1 HAR.out.2)).mono ?_; rintro e w1 ⟨v1, rfl, hown1, hup1⟩; obtain ⟨fn, tmps, assign, body, hy, hR⟩ := HY.out k v1 wr w1 hlt HJ.out hup1 (HGV.out v1 wr w1 hown1); rw [HA.out] at hy)
      refine hR.mono ?_
      rintro e W3 (⟨rfl, hJ3⟩ | ⟨rfl, hJx3⟩)
      · gi_wp2
        go_roundw
        case rel => exact ⟨k + 1, by omega, by simp, ⟨hJ3⟩⟩
        case measure => simp [intOf]; omega
      · gi_wp2
        refine bodyPost_ret (results_none rfl _ _ _) rfl ?_
        exact ⟨⟨_, rfl⟩, .inr hJx3⟩
    · obtain rfl : k = x.length := by omega
      gi_wp2
      go_end0
      exact ⟨⟨_, rfl⟩, .inl HJ.out⟩
end Go.Proofs.YthneeainigdmhaaGreat.M
