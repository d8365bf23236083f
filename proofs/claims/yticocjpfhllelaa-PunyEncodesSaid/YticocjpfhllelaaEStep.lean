/- The walk of (*puny.state).step. -/
import Derived.Test.YticocjpfhllelaaXP1
import Derived.RegionTactic
import Derived.ChangeAlike
namespace Go.Proofs.Yticocjpfhllelaa.XP
open Go.RowKit Go.Proofs.YticocjpfhllelaaW.PrintWords Go.Proofs.YticocjpfhllelaaW.PrintLast Go.Proofs.YticocjpfhllelaaW.PrintMore

/-- The state's block. -/
def St (w : World) (g : Nat) (p n i b st : Int) : Prop :=
  w.heap[g]? = some (.cells #[.int .i64 p, .int .i64 n, .int .i64 i, .int .i64 b, .int .i64 st] 54 (0, 0))

set_option maxHeartbeats 1000000 in
set_option maxRecDepth 100000 in
theorem step_calls (g : Nat) (p n i b st d r : Int) (w : World) (hS : St w g p n i b st)
    (hp0 : 0 ≤ p) (hp1 : p ≤ 200000) (hn0 : 0 ≤ n) (hn1 : n ≤ 4294967296) (hi0 : 0 ≤ i) (hi1 : i ≤ 200000) (hd0 : 0 ≤ d) (hd1 : d ≤ 4294967296) (hs0 : 0 ≤ st) (hs1 : st ≤ 200000)
    (k : Nat) (hA : puny_Adapt.f k d (p + 1) (st == 0) = some r) :
    Calls Try.prog 33 #[.pointer (some ⟨g, 0, none⟩), .int .i64 d] w fun e w' =>
      e = .returned (.tuple #[.int .i64 (n + (i + d) / (p + 1)), .int .i64 ((i + d) % (p + 1))]) ∧ St w' g (p + 1) (n + (i + d) / (p + 1)) ((i + d) % (p + 1) + 1) r (st + 1) ∧ KeepBut w w' g none ∧ Below g w w' := by
  have c0 := (blk_cell hS 0).trans (show _ = some (Value.int .i64 p) from rfl)
  have c1 := (blk_cell hS 1).trans (show _ = some (Value.int .i64 n) from rfl)
  have c2 := (blk_cell hS 2).trans (show _ = some (Value.int .i64 i) from rfl)
  have c3 := (blk_cell hS 3).trans (show _ = some (Value.int .i64 b) from rfl)
  have c4 := (blk_cell hS 4).trans (show _ = some (Value.int .i64 st) from rfl)
  have f0 := blk_frozen hS 0
  have f1 := blk_frozen hS 1
  have f2 := blk_frozen hS 2
  have f3 := blk_frozen hS 3
  have f4 := blk_frozen hS 4
  have HS := Aside0.mk hS
  have HA := Aside0.mk hA
  clear hS hA
  have hq0 : 0 ≤ (i + d) / (p + 1) := Int.ediv_nonneg (by omega) (by omega)
  have hq1 : (i + d) / (p + 1) ≤ 4295167296 := Int.le_trans (Int.ediv_le_self _ (by omega)) (by omega)
  have hr0 : 0 ≤ (i + d) % (p + 1) := Int.emod_nonneg _ (by omega)
  have hr1 : (i + d) % (p + 1) < p + 1 := Int.emod_lt_of_pos _ (by omega)
  go_enter Try.func33, Try.ntmps33
  go_wp2
  go_region
  go_wp2_with (fail)
  refine (puny_Adapt.calls k d (p + 1) (st == 0) r _ HA.out).mono ?_
  rintro e w1 ⟨rfl, hb⟩
  have hb1 := hb.block
  have HB1 : Aside0 (w1.heap[g]? = some (.cells #[.int .i64 p, .int .i64 (n + (i + d) / (p + 1)), .int .i64 i, .int .i64 b, .int .i64 st] 54 (0, 0))) := ⟨blk_below (blk_drew (blk_put HS.out 1 _ rfl)) hb⟩
  have HK : Aside0 (KeepBut w w1 g none) := ⟨((KeepBut.refl w g none).set_ 1 _ |> keep_drew).trans (KeepBut.of_below hb g none) (.inl rfl)⟩
  have HBL : Aside0 (Below g w w1) := ⟨(((Below.refl g w).setCell (p := ⟨g, 1, none⟩) (Nat.le_refl _) _).drew).trans (hb.mono (by have := blk_lt (blk_drew (blk_put HS.out 1 (Value.int .i64 (n + (i + d) / (p + 1))) rfl)); omega))⟩
  have c0 := (blk_cell HB1.out 0).trans (show _ = some (Value.int .i64 p) from rfl)
  have c1 := (blk_cell HB1.out 1).trans (show _ = some (Value.int .i64 (n + (i + d) / (p + 1))) from rfl)
  have c2 := (blk_cell HB1.out 2).trans (show _ = some (Value.int .i64 i) from rfl)
  have c3 := (blk_cell HB1.out 3).trans (show _ = some (Value.int .i64 b) from rfl)
  have c4 := (blk_cell HB1.out 4).trans (show _ = some (Value.int .i64 st) from rfl)
  have f0 := blk_frozen HB1.out 0
  have f1 := blk_frozen HB1.out 1
  have f2 := blk_frozen HB1.out 2
  have f3 := blk_frozen HB1.out 3
  have f4 := blk_frozen HB1.out 4
  clear hb hb1
  go_wp2
  go_ret2
  refine ⟨rfl, ?_, ?_, ?_⟩
  · exact blk_put (blk_put (blk_put (blk_put HB1.out 3 _ rfl) 0 _ rfl) 4 _ rfl) 2 _ rfl
  · exact (((HK.out.set_ 3 _).set_ 0 _).set_ 4 _).set_ 2 _
  · exact (((HBL.out.setCell (p := ⟨g, 3, none⟩) (Nat.le_refl _) _).setCell (p := ⟨g, 0, none⟩) (Nat.le_refl _) _).setCell (p := ⟨g, 4, none⟩) (Nat.le_refl _) _).setCell (p := ⟨g, 2, none⟩) (Nat.le_refl _) _
end Go.Proofs.Yticocjpfhllelaa.XP
