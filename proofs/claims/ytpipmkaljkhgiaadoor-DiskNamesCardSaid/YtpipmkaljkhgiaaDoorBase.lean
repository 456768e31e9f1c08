/- Words on memory for the walks of this seat: what a row of cells reads as, and that it is kept while new blocks are laid. -/
import Derived.WalkKit
import Derived.Deep.WholeRow
namespace Go.Proofs.YtpipmkaljkhgiaaDoor
open Go Go.RowKit

/-- A fact that the walk doesn't look into. -/
theorem hid {p : Prop} (h : p) : Hid p := h

/-- From the address A on stand these cells (nothing is asked of an address where there is no cell). -/
def RV (w : World) (A : Option Addr) (cs : List Value) : Prop :=
  cs = [] ∨ ∃ b o, A = some ⟨b, o, none⟩ ∧ ∀ j v, cs[j]? = some v → w.cell? ⟨b, o + j, none⟩ = some v
/-- Bytes as cells. -/
def bv (b : UInt8) : Value := .int .u8 (b.toNat : Int)
def bvs (bs : List UInt8) : List Value := bs.map bv
/-- From A on stand these bytes. -/
def RB (w : World) (A : Option Addr) (bs : List UInt8) : Prop := RV w A (bvs bs)
theorem bvs_length (bs : List UInt8) : (bvs bs).length = bs.length := by simp [bvs]
theorem bvs_append (a b : List UInt8) : bvs (a ++ b) = bvs a ++ bvs b := by simp [bvs]
theorem bvs_inj {a b : List UInt8} (h : bvs a = bvs b) : a = b := by
  unfold bvs at h
  refine (List.map_inj_right ?_).1 h
  intro x y e
  simp only [bv, Value.int.injEq, true_and] at e
  exact UInt8.toNat_inj.1 (by omega)

/-- The world has grown: what was there is as it was. -/
abbrev Ext (w w' : World) : Prop := Below w.heap.size w w'
theorem RV.nil (w : World) (A : Option Addr) : RV w A [] := .inl rfl
theorem RV.at_ {w : World} {A : Option Addr} {cs : List Value} (h : RV w A cs) {j : Nat} {v : Value} (hv : cs[j]? = some v) :
    ∃ b o, A = some ⟨b, o, none⟩ ∧ w.cell? ⟨b, o + j, none⟩ = some v := by
  rcases h with rfl | ⟨b, o, e, h⟩
  · simp at hv
  · exact ⟨b, o, e, h j v hv⟩
theorem RV.below {w w1 : World} {A : Option Addr} {cs : List Value} (h : RV w A cs) (hb : Below w.heap.size w w1) : RV w1 A cs := by
  rcases h with rfl | ⟨b, o, e, h⟩
  · exact .inl rfl
  · exact .inr ⟨b, o, e, fun j v hv => by have := h j v hv; rw [← this]; exact hb.cell (p := ⟨b, o + j, none⟩) (World.block_lt_of_cell? w ⟨b, o + j, none⟩ this)⟩
theorem RB.below {w w1 : World} {A : Option Addr} {bs : List UInt8} (h : RB w A bs) (hb : Below w.heap.size w w1) : RB w1 A bs := RV.below h hb
theorem RB.nil (w : World) (A : Option Addr) : RB w A [] := .inl rfl
theorem RB.at_ {w : World} {A : Option Addr} {bs : List UInt8} (h : RB w A bs) (j : Nat) (hj : j < bs.length) :
    ∃ b o, A = some ⟨b, o, none⟩ ∧ w.cell? ⟨b, o + j, none⟩ = some (.int .u8 ((bs[j]'hj).toNat : Int)) :=
  RV.at_ h (j := j) (by simp [bvs, bv, hj])
theorem RV.take {w : World} {A : Option Addr} {cs : List Value} (h : RV w A cs) (k : Nat) : RV w A (cs.take k) := by
  rcases h with rfl | ⟨b, o, e, h⟩
  · exact .inl (by simp)
  · refine .inr ⟨b, o, e, fun j v hv => ?_⟩
    rw [List.getElem?_take] at hv
    split at hv
    · exact h j v hv
    · cases hv
theorem RB.take {w : World} {A : Option Addr} {bs : List UInt8} (h : RB w A bs) (k : Nat) : RB w A (bs.take k) := by
  have := RV.take h k
  unfold RB; rw [show bvs (bs.take k) = (bvs bs).take k by simp [bvs]]; exact this
theorem RV.drop {w : World} {b o : Nat} {cs : List Value} (h : RV w (some ⟨b, o, none⟩) cs) (k : Nat) : RV w (some ⟨b, o + k, none⟩) (cs.drop k) := by
  rcases h with rfl | ⟨b', o', e, h⟩
  · exact .inl (by simp)
  · simp only [Option.some.injEq, Addr.mk.injEq, and_true] at e
    obtain ⟨rfl, rfl⟩ := e
    refine .inr ⟨b, o + k, rfl, fun j v hv => ?_⟩
    rw [List.getElem?_drop] at hv
    have := h (k + j) v hv
    rwa [← Nat.add_assoc] at this
theorem RB.drop {w : World} {b o : Nat} {bs : List UInt8} (h : RB w (some ⟨b, o, none⟩) bs) (k : Nat) : RB w (some ⟨b, o + k, none⟩) (bs.drop k) := by
  have := RV.drop h k
  unfold RB; rw [show bvs (bs.drop k) = (bvs bs).drop k by simp [bvs]]; exact this
/-- What is owned is read. -/
theorem RV.own {w : World} {base n : Nat} {e : TypeId} {size : Nat} {v : Value} {cs : List Value} (h : w.ownsRow base e size v n cs) : ∃ A c, v = .slice A n c ∧ n ≤ c ∧ RV w A cs := by
  rcases h.2 with ⟨rfl, rfl⟩ | ⟨g, cap, cur, rfl, hb, hh, hn, hc, hs, ht⟩
  · have : cs = [] := List.eq_nil_of_length_eq_zero (by have := h.1; simpa using this)
    exact ⟨none, 0, rfl, Nat.le_refl _, .inl this⟩
  · refine ⟨_, cap, rfl, hn, .inr ⟨g, 0, rfl, fun j u hu => ?_⟩⟩
    have := h.cells (g := g) rfl j u hu
    have ha : (⟨g, 0, none⟩ : Addr).add j = ⟨g, 0 + j, none⟩ := by unfold Addr.add; split <;> simp_all
    rwa [ha] at this
/-- Bytes of the call's own, from block 'base' on. -/
def OB (w : World) (base : Nat) (v : Value) (bs : List UInt8) : Prop := w.ownsRow base 5 1 v bs.length (bvs bs)
theorem OB.read {w : World} {base : Nat} {v : Value} {bs : List UInt8} (h : OB w base v bs) : ∃ A c, v = .slice A bs.length c ∧ bs.length ≤ c ∧ RB w A bs := RV.own h
theorem OB.below {w w1 : World} {base : Nat} {v : Value} {bs : List UInt8} (h : OB w base v bs) (hb : Below w.heap.size w w1) : OB w1 base v bs :=
  World.ownsRow.kept (row := none) h ⟨hb.os, hb.tape, hb.output, hb.size, fun i hi _ => hb.block i hi⟩ (by cases v.ownBlock <;> simp)
theorem ownsRow_base {w : World} {base base' : Nat} {e : TypeId} {size : Nat} {v : Value} {n : Nat} {xs : List Value} (h : w.ownsRow base e size v n xs) (hb : base' ≤ base) : w.ownsRow base' e size v n xs := by
  refine ⟨h.1, ?_⟩
  rcases h.2 with h | ⟨g, cap, cur, rfl, h1, r⟩
  · exact .inl h
  · exact .inr ⟨g, cap, cur, rfl, Nat.le_trans hb h1, r⟩
theorem OB.base {w : World} {base base' : Nat} {v : Value} {bs : List UInt8} (h : OB w base v bs) (hb : base' ≤ base) : OB w base' v bs := ownsRow_base h hb
/-- One call behind another. -/
theorem below_then {B : Nat} {w w1 w2 : World} (h : Below B w w1) (hB : B ≤ w1.heap.size) (k : Below w1.heap.size w1 w2) : Below B w w2 :=
  h.trans (k.mono hB)
theorem below_all {w w1 w2 : World} (h : Below w.heap.size w w1) (k : Below w1.heap.size w1 w2) : Below w.heap.size w w2 :=
  h.trans (k.mono h.size)

/-! ### A whole array stored into a block -/
theorem setRow_alloc_old (w : World) (o : Obj) (g : Nat) (c : Array Value) (hg : g < w.heap.size) : (w.alloc o).setRow g c = (w.setRow g c).alloc o := by
  simp only [World.setRow, World.alloc]
  congr 1
  apply Array.ext_getElem?
  intro i
  rw [Array.getElem?_modify, Array.getElem?_push, Array.getElem?_push, Array.getElem?_modify, Array.size_modify]
  by_cases h : g = i
  · subst h
    simp [show g ≠ w.heap.size by omega]
  · by_cases h2 : i = w.heap.size
    · subst h2; simp; omega
    · simp [h, h2]
theorem wpList_store_row {P : Program} {ops : Array Oper} {rest : List Oper} {o : Oper} {a : Act} {w : World} {Q : Exit → Act → World → Prop} (hgd : o.guard = none) (ty : TypeId) (x y : Operand) (ho : o.op = .store ty x y)
    (g : Nat) (hx : a.eval x = .pointer (some ⟨g, 0, none⟩)) (c' : Array Value) (hy : a.eval y = .agg c') (t : TypeId) (cs : Array Value) (hg : w.heap[g]? = some (.cells cs t (0, 0)))
    (hi : (P.info? ty).map (·.size) = some c'.size) (hs : cs.size = c'.size) (h1 : c'.all (·.oneCell') = true)
    (h : wpList P ops Q rest (a.put o.dst undef) (w.setRow g c')) : wpList P ops Q (o :: rest) a w :=
  wpList_plain hgd fun _ hK => by
    unfold Oper.wp execOp
    simp only [ho, hx, hy, Instr.storeAt, Instr.sureAddr, Sem.run_bind, Sem.run_pure, Result.andThen_ok, run_storeVar_row w g t ty cs c' hg hi hs h1]
    exact hK _ _ h
end Go.Proofs.YtpipmkaljkhgiaaDoor
