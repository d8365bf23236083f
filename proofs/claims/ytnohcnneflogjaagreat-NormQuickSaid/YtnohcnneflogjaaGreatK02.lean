/- The plain notions of a record, and of what memory holds of it. -/
import Derived.WalkKit
import Derived.WalkMore
import Derived.RegionTactic
import Derived.Outline
import Derived.IntWalk
import Derived.Sort.AtCall
import Derived.RowKit
import Derived.RowKit3
import Derived.KernelRfl
import Derived.Deep.RegionHeld3
import Derived.Deep.QuietTactic
import Derived.BigQuiet
import Derived.Below
import Derived.Tactics
import Derived.OwnWalk
import Derived.OrdersHeld
import Derived.Laws.Slices
import Derived.Laws.Rows
import Derived.Laws.OwnMore
import Derived.Laws.MakeOwn
import Derived.Laws.IdiomCopy
import Derived.Deep.OwnRows
import Derived.Deep.LoopGhost
import Derived.Deep.Draws
import Derived.Deep.DeepCutAuto
import Derived.Deep.CutBlock
import Derived.Deep.AppendLies
import Derived.Deep.AppendSrc
import Derived.Deep.RegionLaw
import Derived.ArgAppend
import Derived.ScopeJumps
import Derived.LoopN
import Derived.Laws.StructEq
import Derived.Laws.CopyOwn
import Derived.ChangeAlike
import Derived.BigGuard
import Derived.BigCall
import Derived.Deep.Slices
import Derived.WalkLawsBesides
import Derived.WalkSpells
import Derived.Maps.AppendAt
import Derived.Deep.DeepFit
import Derived.Deep.Light
import Derived.Laws.AppendOwnNone
import Derived.Test.YtnohcnneflogjaaGreatProg
import Derived.Test.YtnohcnneflogjaaGreatK01
import Derived.Maps.OwnOps
import Derived.Maps.OwnSet
set_option linter.unusedVariables false
namespace Go.Proofs.YtnohcnneflogjaaGreat.M
open Go.RowKit
abbrev Up (w w' : World) : Prop := Below w.heap.size w w'
theorem up_trans {a b c : World} (h : Up a b) (k : Up b c) : Up a c := Below.trans h (k.mono h.size)
theorem up_refl (w : World) : Up w w := Below.refl _ _
theorem up_alloc {a w : World} (h : Up a w) (o : Obj) : Up a (w.alloc o) := h.alloc h.size o
theorem below_drewN {B : Nat} {a w : World} (h : Below B a w) (n : Nat) : Below B a (w.drewN n) := h.trans ⟨rfl, rfl, rfl, Nat.le_refl _, fun _ _ => rfl⟩
theorem up_drewN {a w : World} (h : Up a w) (n : Nat) : Up a (w.drewN n) := below_drewN h n
theorem up_drew {a w : World} (h : Up a w) : Up a w.drew := Below.drew h
theorem cell_lt {w : World} {ad : Addr} {v : Value} (h : w.cell? ad = some v) : ad.block < w.heap.size := World.block_lt_of_cell? w ad h
theorem up_cell {w w' : World} (h : Up w w') {ad : Addr} {v : Value} (hc : w.cell? ad = some v) : w'.cell? ad = some v := (h.cell (cell_lt hc)).trans hc
def Cells (w : World) (A : Option Addr) (vs : List Value) : Prop := ∀ i v, vs[i]? = some v → ∃ ad, A = some ad ∧ w.cell? (ad.add i) = some v
theorem Cells.up {w w' : World} {A : Option Addr} {vs : List Value} (h : Cells w A vs) (hu : Up w w') : Cells w' A vs := fun i v hv => by
 obtain ⟨ad, hA, hc⟩ := h i v hv
 exact ⟨ad, hA, up_cell hu hc⟩
theorem Cells.nil (w : World) (A : Option Addr) : Cells w A [] := fun i v hv => by simp at hv
theorem Cells.at {w : World} {A : Option Addr} {vs : List Value} (h : Cells w A vs) {i : Nat} (hi : i < vs.length) : ∃ ad, A = some ad ∧ w.cell? (ad.add i) = some vs[i] := h i _ (List.getElem?_eq_getElem hi)
abbrev Ints (k : IntKind) (w : World) (A : Option Addr) (l : List Int) : Prop := Cells w A (l.map (Value.int k))
theorem Ints.at_ {k : IntKind} {w : World} {A : Option Addr} {l : List Int} (h : Ints k w A l) (i : Int) (h0 : 0 ≤ i) (h1 : i < l.length) : ∃ ad, A = some ad ∧ w.cell? (ad.add i.toNat) = some (.int k (rd l i)) := by
 obtain ⟨n, rfl⟩ := Int.eq_ofNat_of_zero_le h0
 have hn : n < l.length := by omega
 obtain ⟨ad, hA, hc⟩ := h n (.int k l[n]) (by simp [hn])
 exact ⟨ad, hA, by rw [rd_get l n hn]; exact hc⟩
abbrev recCells (x : Rec) (A : Option Addr) (c : Nat) : Array Value := #[.int .i64 x.kind, .int .i64 x.lo, .int .i64 x.hi, .int .i64 x.n, .slice A x.to.length c, .string x.name, .string x.other, .float .f64 x.weight]
abbrev recV (x : Rec) (A : Option Addr) (c : Nat) : Value := .agg (recCells x A c)
abbrev recO (x : Rec) (A : Option Addr) (c : Nat) : Obj := Obj.cells #[Value.int IntKind.i64 x.kind, Value.int IntKind.i64 x.lo, Value.int IntKind.i64 x.hi, Value.int IntKind.i64 x.n, Value.slice A x.to.length c, Value.string x.name, Value.string x.other, Value.float FloatKind.f64 x.weight] 113
def RecAt (w : World) (a : Addr) (x : Rec) (A : Option Addr) (c : Nat) : Prop :=
 w.cell? a = some (.int .i64 x.kind) ∧ w.cell? ⟨a.block, a.off + 1, none⟩ = some (.int .i64 x.lo) ∧ w.cell? ⟨a.block, a.off + 2, none⟩ = some (.int .i64 x.hi) ∧ w.cell? ⟨a.block, a.off + 3, none⟩ = some (.int .i64 x.n) ∧
 w.cell? ⟨a.block, a.off + 4, none⟩ = some (.slice A x.to.length c) ∧ w.cell? ⟨a.block, a.off + 5, none⟩ = some (.string x.name) ∧ w.cell? ⟨a.block, a.off + 6, none⟩ = some (.string x.other) ∧ w.cell? ⟨a.block, a.off + 7, none⟩ = some (.float .f64 x.weight)
theorem RecAt.up {w w' : World} {a : Addr} {x : Rec} {A : Option Addr} {c : Nat} (h : RecAt w a x A c) (hb : Up w w') : RecAt w' a x A c := by
 obtain ⟨h0, h1, h2, h3, h4, h5, h6, h7⟩ := h
 exact ⟨up_cell hb h0, up_cell hb h1, up_cell hb h2, up_cell hb h3, up_cell hb h4, up_cell hb h5, up_cell hb h6, up_cell hb h7⟩
def RecBox (w : World) (b : Nat) (x : Rec) (A : Option Addr) (c : Nat) : Prop :=
 w.cell? ⟨b, 0, none⟩ = some (.int .i64 x.kind) ∧ w.cell? ⟨b, 1, none⟩ = some (.int .i64 x.lo) ∧ w.cell? ⟨b, 2, none⟩ = some (.int .i64 x.hi) ∧ w.cell? ⟨b, 3, none⟩ = some (.int .i64 x.n) ∧
 w.cell? ⟨b, 4, none⟩ = some (.slice A x.to.length c) ∧ w.cell? ⟨b, 5, none⟩ = some (.string x.name) ∧ w.cell? ⟨b, 6, none⟩ = some (.string x.other) ∧ w.cell? ⟨b, 7, none⟩ = some (.float .f64 x.weight)
theorem RecBox.keep {w w' : World} {b : Nat} {x : Rec} {A : Option Addr} {c : Nat} (h : RecBox w b x A c) (hb : Up w w') : RecBox w' b x A c := by
 obtain ⟨h0, h1, h2, h3, h4, h5, h6, h7⟩ := h
 exact ⟨up_cell hb h0, up_cell hb h1, up_cell hb h2, up_cell hb h3, up_cell hb h4, up_cell hb h5, up_cell hb h6, up_cell hb h7⟩
theorem recBox_new (w : World) (x : Rec) (A : Option Addr) (c : Nat) : RecBox (w.alloc (recO x A c)) w.heap.size x A c := by
 refine ⟨?_, ?_, ?_, ?_, ?_, ?_, ?_, ?_⟩ <;> (go_simp; try rfl)
def RecMem (w : World) (a : Addr) (x : Rec) : Prop := ∃ A c, RecAt w a x A c ∧ Ints .i32 w A x.to
theorem RecMem.up {w w' : World} {a : Addr} {x : Rec} (h : RecMem w a x) (hu : Up w w') : RecMem w' a x := by
 obtain ⟨A, c, h1, h2⟩ := h
 exact ⟨A, c, h1.up hu, h2.up hu⟩
def Table (w : World) (A : Option Addr) (T : List Rec) : Prop := ∀ i x, T[i]? = some x → ∃ ad, A = some ad ∧ RecMem w (ad.add (i * 8)) x
theorem Table.up {w w' : World} {A : Option Addr} {T : List Rec} (h : Table w A T) (hu : Up w w') : Table w' A T := fun i x hx => by
 obtain ⟨ad, hA, hm⟩ := h i x hx
 exact ⟨ad, hA, hm.up hu⟩
end Go.Proofs.YtnohcnneflogjaaGreat.M
namespace Go.Proofs.YtnohcnneflogjaaGreat.M
open Go Go.RowKit Go.Maps Go.MapKept Go.ChangeMaps
def KeyOk (P : Program) (k : TypeId) (x : Value) : Prop := ∃ l, keyOf P k x = some l
def MapIs (P : Program) (k : TypeId) (w : World) (b n : Nat) (F : Value → Option Value) : Prop :=
 ∃ es clock, w.heap[b]? = some (.map es clock) ∧ Stamped es clock ∧ (∀ e ∈ es.toList, KeyOk P k e.key) ∧ es.size ≤ n ∧
   ∀ x v, KeyOk P k x → (F x = some v ↔ ∃ e ∈ es.toList, e.key = x ∧ e.val = v)
noncomputable def putF (F : Value → Option Value) (x v : Value) : Value → Option Value := open Classical in fun y => if y = x then some v else F y
theorem putF_same (F : Value → Option Value) (x v : Value) : putF F x v x = some v := by simp [putF]
theorem putF_other (F : Value → Option Value) (x v y : Value) (h : y ≠ x) : putF F x v y = F y := by simp [putF, h]
section
variable {P : Program} {k : TypeId} {w : World} {b n : Nat} {F : Value → Option Value}
theorem MapIs.lt (h : MapIs P k w b n F) : b < w.heap.size := by
 obtain ⟨es, clock, hb, _⟩ := h
 exact (Array.getElem?_eq_some_iff.1 hb).1
theorem MapIs.made (P : Program) (k : TypeId) (w : World) : MapIs P k (w.alloc (.map #[] 0)) w.heap.size 0 (fun _ => none) :=
 ⟨#[], 0, (heap_alloc w _).1, stamped_empty 0, by simp, Nat.le_refl _, by simp⟩
theorem MapIs.block {w' : World} (h : MapIs P k w b n F) (hb : w'.heap[b]? = w.heap[b]?) : MapIs P k w' b n F := by
 obtain ⟨es, clock, h1, r⟩ := h
 exact ⟨es, clock, hb.trans h1, r⟩
theorem MapIs.up {w' : World} (h : MapIs P k w b n F) (hu : Below w.heap.size w w') : MapIs P k w' b n F := h.block (hu.block b h.lt)
theorem MapIs.alloc (h : MapIs P k w b n F) (o : Obj) : MapIs P k (w.alloc o) b n F := h.block (Below.heap_alloc _ _ _ h.lt)
theorem MapIs.drew (h : MapIs P k w b n F) : MapIs P k w.drew b n F := h
theorem MapIs.setCell (h : MapIs P k w b n F) {a : Addr} (ha : b ≠ a.block) (u : Value) : MapIs P k (w.setCell a u) b n F := h.block (Below.heap_setCell _ _ _ _ ha)
theorem MapIs.grown {w' : World} {row : Option Nat} (h : MapIs P k w b n F) (hg : w.grownBy w' row) (hne : some b ≠ row) : MapIs P k w' b n F := h.block (hg.block b h.lt hne)
theorem MapIs.mono (h : MapIs P k w b n F) {n' : Nat} (hn : n ≤ n') : MapIs P k w b n' F := by
 obtain ⟨es, clock, h1, h2, h3, h4, h5⟩ := h
 exact ⟨es, clock, h1, h2, h3, Nat.le_trans h4 hn, h5⟩
theorem MapIs.congr (h : MapIs P k w b n F) {G : Value → Option Value} (hG : ∀ x, KeyOk P k x → F x = G x) : MapIs P k w b n G := by
 obtain ⟨es, clock, h1, h2, h3, h4, h5⟩ := h
 exact ⟨es, clock, h1, h2, h3, h4, fun x v hx => by rw [← hG x hx]; exact h5 x v hx⟩
theorem MapIs.look {t e : TypeId} (h : MapIs P k w b n F) (K : Keyed P k) (ht : P.underlying t = some (.map k e)) {z : Value} (hz : (zeroValue e).run P w = .ok z w) {x : Value} (hx : KeyOk P k x) (c : Bool) :
 (Instr.lookup t (.map (some b)) x c).run P w = .ok (if c then .tuple #[(F x).getD z, .bool (F x).isSome] else (F x).getD z) w := by
 obtain ⟨es, clock, hb, hst, hk, hs, hF⟩ := h
 obtain ⟨kl, hkey⟩ := hx
 rcases K.find w hkey es.toList hk with ⟨h1, h2⟩ | ⟨j, e0, h1, h2, h3⟩
 ·have hn : F x = none := by
   cases hf : F x with
   | none => rfl
   | some v =>
     obtain ⟨e, he, hk, _⟩ := (hF x v ⟨kl, hkey⟩).1 hf
     exact absurd hk (h2 e he)
  rw [hn]
  cases c <;> simp [Instr.lookup, run_underlying ht, MapKept.run_getObj_map hb, K.check w _ hkey, h1, hz, Result.andThen]
 ·have hn : F x = some e0.val := (hF x e0.val ⟨kl, hkey⟩).2 ⟨e0, List.mem_of_getElem? h2, h3, rfl⟩
  rw [hn]
  cases c <;> simp [Instr.lookup, run_underlying ht, MapKept.run_getObj_map hb, K.check w _ hkey, h1, Result.andThen]
theorem MapIs.store {t e : TypeId} (h : MapIs P k w b n F) (K : Keyed P k) (ht : P.underlying t = some (.map k e)) (hn : n < maxLen) {x v : Value} (hx : KeyOk P k x) :
 ∃ w', (Instr.mapUpdate t (.map (some b)) x v).run P w = .ok () w' ∧ MapIs P k w' b (n + 1) (putF F x v) ∧ w.grownBy w' (some b) := by
 obtain ⟨es, clock, hb, hst, hk, hs, hF⟩ := h
 obtain ⟨kl, hkey⟩ := hx
 rcases K.find w hkey es.toList hk with ⟨h1, h2⟩ | ⟨j, e0, h1, h2, h3⟩
 ·refine ⟨Go.ChangeMaps.setBlock w b (.map (es.push ⟨x, v, clock⟩) (clock + 1)), ?_, ⟨es.push ⟨x, v, clock⟩, clock + 1, heap_setBlock_same hb _, stamped_push hst h2, ?_, by simp; omega, ?_⟩, ⟨rfl, rfl, rfl, by simp [Go.ChangeMaps.setBlock], fun i _ hi => heap_setBlock_other hb _ (fun e => hi (by rw [e]))⟩⟩
  ·simp [Instr.mapUpdate, run_underlying ht, MapKept.run_getObj_map hb, K.check w false hkey, h1, MapKept.run_setObj_map _ hb, Result.andThen, Go.ChangeMaps.setBlock]
  ·intro e he
   simp only [Array.toList_push, List.mem_append, List.mem_singleton] at he
   rcases he with he | rfl
   ·exact hk e he
   ·exact ⟨kl, hkey⟩
  ·intro y u hy
   simp only [Array.toList_push, List.mem_append, List.mem_singleton]
   by_cases hyx : y = x
   ·subst hyx
    rw [putF_same]
    constructor
    ·intro hu
     cases hu
     exact ⟨_, .inr rfl, rfl, rfl⟩
    ·rintro ⟨e, he | rfl, hke, rfl⟩
     ·exact absurd hke (h2 e he)
     ·rfl
   ·rw [putF_other _ _ _ _ hyx, hF y u hy]
    constructor
    ·rintro ⟨e, he, r⟩
     exact ⟨e, .inl he, r⟩
    ·rintro ⟨e, he | rfl, hke, hv⟩
     ·exact ⟨e, he, hke, hv⟩
     ·exact absurd hke.symm hyx
 ·have hj : es[j]? = some e0 := by simpa using h2
  have hjl : j < es.toList.length := (List.getElem?_eq_some_iff.1 h2).1
  have hkeyf : ∀ e', es[j]? = some e' → ({ e' with key := x, val := v } : MapEntry).key = e'.key := fun e' he' => by rw [hj] at he'; cases he'; exact h3.symm
  have hlist : (es.modify j (fun e' => { e' with key := x, val := v })).toList = es.toList.set j { e0 with key := x, val := v } := by rw [Array.toList_modify, Go.ChangeMaps.modify_eq_set _ _ _ _ h2]
  have hd : es.toList.Pairwise (fun p q => p.key ≠ q.key) := ((stamped_iff es clock).1 hst).2.2
  have apart : ∀ i e, es.toList[i]? = some e → i ≠ j → e.key ≠ x := by
   intro i e hi hne hke
   have hil : i < es.toList.length := (List.getElem?_eq_some_iff.1 hi).1
   have ei : es.toList[i] = e := (List.getElem?_eq_some_iff.1 hi).2
   have ej : es.toList[j] = e0 := (List.getElem?_eq_some_iff.1 h2).2
   rw [List.pairwise_iff_getElem] at hd
   rcases Nat.lt_or_gt_of_ne hne with hlt | hlt
   ·exact hd i j hil hjl hlt (by rw [ei, ej, hke, h3])
   ·exact hd j i hjl hil hlt (by rw [ei, ej, hke, h3])
  have who : ∀ e ∈ es.toList.set j { e0 with key := x, val := v }, e = { e0 with key := x, val := v } ∨ (e ∈ es.toList ∧ e.key ≠ x) := by
   intro e he
   obtain ⟨i, hi, ex⟩ := List.getElem_of_mem he
   rw [List.getElem_set] at ex
   split at ex
   ·exact Or.inl ex.symm
   ·rename_i hne
    have hi' : i < es.toList.length := by simpa using hi
    exact Or.inr ⟨ex ▸ List.getElem_mem hi', apart i e (by rw [List.getElem?_eq_getElem hi', ex]) (fun h => hne h.symm)⟩
  have old : ∀ e ∈ es.toList, e.key ≠ x → e ∈ es.toList.set j { e0 with key := x, val := v } := by
   intro e he hne
   obtain ⟨i, hi, ex⟩ := List.getElem_of_mem he
   refine List.mem_iff_getElem.2 ⟨i, by simpa using hi, ?_⟩
   rw [List.getElem_set, if_neg, ex]
   rintro rfl
   have ej : es.toList[j] = e0 := (List.getElem?_eq_some_iff.1 h2).2
   rw [ej] at ex
   exact hne (by rw [← ex, h3])
  refine ⟨Go.ChangeMaps.setBlock w b (.map (es.modify j (fun e' => { e' with key := x, val := v })) clock), ?_, ⟨es.modify j (fun e' => { e' with key := x, val := v }), clock, heap_setBlock_same hb _, stamped_modify hst _ _ (fun _ _ => rfl) (fun e' _ he' => hkeyf e' he'), ?_, by simp; omega, ?_⟩, ⟨rfl, rfl, rfl, by simp [Go.ChangeMaps.setBlock], fun i _ hi => heap_setBlock_other hb _ (fun e => hi (by rw [e]))⟩⟩
  ·simp [Instr.mapUpdate, run_underlying ht, MapKept.run_getObj_map hb, K.check w false hkey, h1, hj, h3, K.stays w hkey, MapKept.run_setObj_map _ hb, Result.andThen, Go.ChangeMaps.setBlock]
  ·intro e he
   rw [hlist] at he
   rcases who e he with rfl | ⟨he', _⟩
   ·exact ⟨kl, hkey⟩
   ·exact hk e he'
  ·intro y u hy
   rw [hlist]
   by_cases hyx : y = x
   ·subst hyx
    rw [putF_same]
    constructor
    ·intro hu
     cases hu
     exact ⟨{ e0 with key := y, val := v }, List.mem_iff_getElem.2 ⟨j, by simpa using hjl, by simp⟩, rfl, rfl⟩
    ·rintro ⟨e, he, hke, rfl⟩
     rcases who e he with rfl | ⟨_, hne⟩
     ·rfl
     ·exact absurd hke hne
   ·rw [putF_other _ _ _ _ hyx, hF y u hy]
    constructor
    ·rintro ⟨e, he, hke, hv⟩
     exact ⟨e, old e he (by rw [hke]; exact hyx), hke, hv⟩
    ·rintro ⟨e, he, hke, hv⟩
     rcases who e he with rfl | ⟨he', _⟩
     ·exact absurd hke.symm hyx
     ·exact ⟨e, he', hke, hv⟩
end
theorem wpList_look {P : Program} (w : World) {ops : Array Oper} {rest : List Oper} {o : Oper} {a : Act} {Q : Exit → Act → World → Prop}
 (hg : o.guard = none) (m x : Operand) (t : TypeId) (c : Bool) (hop : o.op = Op.lookup t m x c)
 (k e : TypeId) (K : Keyed P k) (ht : P.underlying t = some (.map k e)) {z : Value} (hz : (zeroValue e).run P w = .ok z w) (b n : Nat) (F : Value → Option Value)
 (hm : a.eval m = .map (some b)) (hown : MapIs P k w b n F) (key : Value) (hx : a.eval x = key) (hkey : KeyOk P k key) (r : Value) (hr : (if c then .tuple #[(F key).getD z, .bool (F key).isSome] else (F key).getD z) = r)
 (hK : wpList P ops Q rest (a.put o.dst r) w) : wpList P ops Q (o :: rest) a w := by
 refine wpList_plain hg fun K' hK' => ?_
 have hrun := hown.look K ht hz hkey c
 rw [hr] at hrun
 unfold Oper.wp
 simp [execOp, hop, hm, hx, hrun, Result.andThen]
 exact hK' _ _ hK
theorem wpList_store {P : Program} (w : World) {ops : Array Oper} {rest : List Oper} {o : Oper} {a : Act} {Q : Exit → Act → World → Prop}
 (hg : o.guard = none) (m x v : Operand) (t : TypeId) (hop : o.op = Op.mapUpdate t m x v)
 (k e : TypeId) (K : Keyed P k) (ht : P.underlying t = some (.map k e)) (b n : Nat) (F : Value → Option Value)
 (hm : a.eval m = .map (some b)) (hown : MapIs P k w b n F) (hn : n < maxLen) (key val : Value) (hx : a.eval x = key) (hv : a.eval v = val) (hkey : KeyOk P k key)
 (hK : ∀ w', MapIs P k w' b (n + 1) (putF F key val) → w.grownBy w' (some b) → wpList P ops Q rest (a.put o.dst undef) w') : wpList P ops Q (o :: rest) a w := by
 refine wpList_plain hg fun K' hK' => ?_
 obtain ⟨w', hrun, r1, r2⟩ := hown.store K ht hn hkey (v := val)
 unfold Oper.wp
 simp [execOp, hop, hm, hx, hv, hrun, Result.andThen]
 exact hK' _ _ (hK w' r1 r2)
end Go.Proofs.YtnohcnneflogjaaGreat.M
