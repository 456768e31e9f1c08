/- Several texts of this claim's, one behind the other. -/
import Derived.WalkKit
import Derived.Deep.WholeRow
import Derived.Test.YtakebdeldndaaaaGreatDoorProg
import Derived.ProofKit
import Derived.OpenShut
import Derived.ChangeOld
import Derived.Maps.AppendAt
import Derived.Laws.OwnMore
import Derived.Orders
import Derived.Laws.BytesArg
import Derived.ChangeArms
/- Words on memory for the walks of this seat: what a row of cells reads as, and that it is kept while new blocks are laid. -/
namespace Go.Proofs.YtakebdeldndaaaaGreatDoor
open Go Go.RowKit
theorem hid {p : Prop} (h : p) : Hid p := h
def RV (w : World) (A : Option Addr) (cs : List Value) : Prop :=
 cs = [] ∨ ∃ b o, A = some ⟨b, o, none⟩ ∧ ∀ j v, cs[j]? = some v → w.cell? ⟨b, o + j, none⟩ = some v
def bv (b : UInt8) : Value := .int .u8 (b.toNat : Int)
def bvs (bs : List UInt8) : List Value := bs.map bv
def RB (w : World) (A : Option Addr) (bs : List UInt8) : Prop := RV w A (bvs bs)
theorem bvs_length (bs : List UInt8) : (bvs bs).length = bs.length := by simp [bvs]
theorem bvs_append (a b : List UInt8) : bvs (a ++ b) = bvs a ++ bvs b := by simp [bvs]
abbrev Ext (w w' : World) : Prop := Below w.heap.size w w'
theorem RV.at_ {w : World} {A : Option Addr} {cs : List Value} (h : RV w A cs) {j : Nat} {v : Value} (hv : cs[j]? = some v) :
  ∃ b o, A = some ⟨b, o, none⟩ ∧ w.cell? ⟨b, o + j, none⟩ = some v := by
 rcases h with rfl | ⟨b, o, e, h⟩
 ·simp at hv
 ·exact ⟨b, o, e, h j v hv⟩
theorem RV.below {w w1 : World} {A : Option Addr} {cs : List Value} (h : RV w A cs) (hb : Below w.heap.size w w1) : RV w1 A cs := by
 rcases h with rfl | ⟨b, o, e, h⟩
 ·exact .inl rfl
 ·exact .inr ⟨b, o, e, fun j v hv => by have := h j v hv; rw [← this]; exact hb.cell (p := ⟨b, o + j, none⟩) (World.block_lt_of_cell? w ⟨b, o + j, none⟩ this)⟩
theorem RB.below {w w1 : World} {A : Option Addr} {bs : List UInt8} (h : RB w A bs) (hb : Below w.heap.size w w1) : RB w1 A bs := RV.below h hb
theorem RB.nil (w : World) (A : Option Addr) : RB w A [] := .inl rfl
theorem RB.at_ {w : World} {A : Option Addr} {bs : List UInt8} (h : RB w A bs) (j : Nat) (hj : j < bs.length) :
  ∃ b o, A = some ⟨b, o, none⟩ ∧ w.cell? ⟨b, o + j, none⟩ = some (.int .u8 ((bs[j]'hj).toNat : Int)) :=
 RV.at_ h (j := j) (by simp [bvs, bv, hj])
theorem RV.take {w : World} {A : Option Addr} {cs : List Value} (h : RV w A cs) (k : Nat) : RV w A (cs.take k) := by
 rcases h with rfl | ⟨b, o, e, h⟩
 ·exact .inl (by simp)
 ·refine .inr ⟨b, o, e, fun j v hv => ?_⟩
  rw [List.getElem?_take] at hv
  split at hv
  ·exact h j v hv
  ·cases hv
theorem RB.take {w : World} {A : Option Addr} {bs : List UInt8} (h : RB w A bs) (k : Nat) : RB w A (bs.take k) := by
 have := RV.take h k
 unfold RB; rw [show bvs (bs.take k) = (bvs bs).take k by simp [bvs]]; exact this
theorem RV.drop {w : World} {b o : Nat} {cs : List Value} (h : RV w (some ⟨b, o, none⟩) cs) (k : Nat) : RV w (some ⟨b, o + k, none⟩) (cs.drop k) := by
 rcases h with rfl | ⟨b', o', e, h⟩
 ·exact .inl (by simp)
 ·simp only [Option.some.injEq, Addr.mk.injEq, and_true] at e
  obtain ⟨rfl, rfl⟩ := e
  refine .inr ⟨b, o + k, rfl, fun j v hv => ?_⟩
  rw [List.getElem?_drop] at hv
  have := h (k + j) v hv
  rwa [← Nat.add_assoc] at this
theorem RV.own {w : World} {base n : Nat} {e : TypeId} {size : Nat} {v : Value} {cs : List Value} (h : w.ownsRow base e size v n cs) : ∃ A c, v = .slice A n c ∧ n ≤ c ∧ RV w A cs := by
 rcases h.2 with ⟨rfl, rfl⟩ | ⟨g, cap, cur, rfl, hb, hh, hn, hc, hs, ht⟩
 ·have : cs = [] := List.eq_nil_of_length_eq_zero (by have := h.1; simpa using this)
  exact ⟨none, 0, rfl, Nat.le_refl _, .inl this⟩
 ·refine ⟨_, cap, rfl, hn, .inr ⟨g, 0, rfl, fun j u hu => ?_⟩⟩
  have := h.cells (g := g) rfl j u hu
  have ha : (⟨g, 0, none⟩ : Addr).add j = ⟨g, 0 + j, none⟩ := by unfold Addr.add; split <;> simp_all
  rwa [ha] at this
def OB (w : World) (base : Nat) (v : Value) (bs : List UInt8) : Prop := w.ownsRow base 5 1 v bs.length (bvs bs)
theorem OB.read {w : World} {base : Nat} {v : Value} {bs : List UInt8} (h : OB w base v bs) : ∃ A c, v = .slice A bs.length c ∧ bs.length ≤ c ∧ RB w A bs := RV.own h
theorem OB.below {w w1 : World} {base : Nat} {v : Value} {bs : List UInt8} (h : OB w base v bs) (hb : Below w.heap.size w w1) : OB w1 base v bs :=
 World.ownsRow.kept (row := none) h ⟨hb.os, hb.tape, hb.output, hb.size, fun i hi _ => hb.block i hi⟩ (by cases v.ownBlock <;> simp)
theorem ownsRow_base {w : World} {base base' : Nat} {e : TypeId} {size : Nat} {v : Value} {n : Nat} {xs : List Value} (h : w.ownsRow base e size v n xs) (hb : base' ≤ base) : w.ownsRow base' e size v n xs := by
 refine ⟨h.1, ?_⟩
 rcases h.2 with h | ⟨g, cap, cur, rfl, h1, r⟩
 ·exact .inl h
 ·exact .inr ⟨g, cap, cur, rfl, Nat.le_trans hb h1, r⟩
theorem OB.base {w : World} {base base' : Nat} {v : Value} {bs : List UInt8} (h : OB w base v bs) (hb : base' ≤ base) : OB w base' v bs := ownsRow_base h hb
theorem below_then {B : Nat} {w w1 w2 : World} (h : Below B w w1) (hB : B ≤ w1.heap.size) (k : Below w1.heap.size w1 w2) : Below B w w2 :=
 h.trans (k.mono hB)
theorem below_all {w w1 w2 : World} (h : Below w.heap.size w w1) (k : Below w1.heap.size w1 w2) : Below w.heap.size w w2 :=
 h.trans (k.mono h.size)
/-! ### A whole array stored into a block -/
theorem setRow_alloc_old (w : World) (o : Obj) (g : Nat) (c : Array Value) (hg : g < w.heap.size) : (w.alloc o).setRow g c = (w.setRow g c).alloc o := by
 simp only [World.setRow, World.alloc]
 congr 1
 apply Array.ext_getElem?
 intro i
 rw [Array.getElem?_modify, Array.getElem?_push, Array.getElem?_push, Array.getElem?_modify, Array.size_modify]
 by_cases h : g = i
 ·subst h
  simp [show g ≠ w.heap.size by omega]
 ·by_cases h2 : i = w.heap.size
  ·subst h2; simp; omega
  ·simp [h, h2]
theorem wpList_store_row {P : Program} {ops : Array Oper} {rest : List Oper} {o : Oper} {a : Act} {w : World} {Q : Exit → Act → World → Prop} (hgd : o.guard = none) (ty : TypeId) (x y : Operand) (ho : o.op = .store ty x y)
  (g : Nat) (hx : a.eval x = .pointer (some ⟨g, 0, none⟩)) (c' : Array Value) (hy : a.eval y = .agg c') (t : TypeId) (cs : Array Value) (hg : w.heap[g]? = some (.cells cs t (0, 0)))
  (hi : (P.info? ty).map (·.size) = some c'.size) (hs : cs.size = c'.size) (h1 : c'.all (·.oneCell') = true)
  (h : wpList P ops Q rest (a.put o.dst undef) (w.setRow g c')) : wpList P ops Q (o :: rest) a w :=
 wpList_plain hgd fun _ hK => by
  unfold Oper.wp execOp
  simp only [ho, hx, hy, Instr.storeAt, Instr.sureAddr, Sem.run_bind, Sem.run_pure, Result.andThen_ok, run_storeVar_row w g t ty cs c' hg hi hs h1]
  exact hK _ _ h
end Go.Proofs.YtakebdeldndaaaaGreatDoor
/- From what a row's form says of an argument to the words of this seat's walks. -/
namespace Go.Proofs.YtakebdeldndaaaaGreatDoor
open Go Go.RowKit Go.ChangeShapes Go.WideShapes Go.ChangeAt
set_option maxRecDepth 100000
theorem ownKnob_none : ownKnob Tryz.prog.godebug = none := by kernel_rfl
theorem laid_out : laidOutB Tryz.prog = true := by kernel_rfl
theorem u8_cells : Tryz.prog.cellsOf 5 = 1 := by kernel_rfl
structure InB (W : World) (a : Option Addr) (n c : Nat) (bs : List UInt8) : Prop where
 len : n = bs.length
 cap : n ≤ c
 max : c ≤ 9223372036854775807
 read : RB W a bs
theorem byte_of_wf {n : Int} (h : (Lit.int .u8 n).wf = true) : ∃ b : UInt8, n = (b.toNat : Int) := by
 have := bounds_u8 h
 exact ⟨UInt8.ofNat n.toNat, by rw [UInt8.toNat_ofNat']; omega⟩
theorem okWide_array {P : Program} {w : World} {r : Reach} {base n : Nat} {t e : TypeId} {v : Value} (ht : P.underlying t = some (.array n e)) (h : Value.okWide P w r base t v) : ∃ cs, v = .agg cs ∧ cs.size = P.cellsOf t := by
 simp only [Value.okWide, ht] at h
 obtain ⟨cs, h1, h2, _⟩ := h
 exact ⟨cs, h1, h2⟩
end Go.Proofs.YtakebdeldndaaaaGreatDoor
/- append onto a slice of the call's own, from whatever source: one law for the walks of this seat. -/
namespace Go.Proofs.YtakebdeldndaaaaGreatDoor
open Go Go.RowKit
structure SlInfo (P : Program) (t e : TypeId) (z : Value) (size bytes : Nat) : Prop where
 ht : P.underlying t = some (.slice e)
 hi : (P.info? e).map (fun i => (i.zero, i.size, i.bytes)) = some (some z, size, bytes)
 hz : z.cells.size = size
 hs : 0 < size
theorem run_append_owned_nil {P : Program} {w : World} (base : Nat) (t ty e : TypeId) (i : TypeInfo) (size : Nat) (ht : P.underlying t = some (.slice e)) (hi : P.info? e = some i)
  (v : Value) (n : Nat) (xs : List Value) (hown : w.ownsRow base e size v n xs) (c : Nat) :
  (Builtin.append_ #[t, t] ty #[v, .slice none 0 c]).run P w = .ok v w := by
 rcases hown.2 with ⟨rfl, rfl⟩ | ⟨g, cap, cur, rfl, _, _, hnc, _⟩
 ·simp [Builtin.append_, run_underlying ht, sizeOf, typeInfo, hi, Builtin.lenOf, Builtin.firstCells]
 ·simp [Builtin.append_, run_underlying ht, sizeOf, typeInfo, hi, Builtin.lenOf, Builtin.firstCells, hnc, storeCells]
structure Grew (w0 w w1 : World) (B : Nat) (v v1 : Value) : Prop where
 grown : w.grownBy w1 v.ownBlock
 below : Below B w0 w1
 at_ : v1.ownBlock = v.ownBlock ∨ v1.ownBlock = some w.heap.size
theorem own_base {w : World} {base : Nat} {e : TypeId} {size n : Nat} {v : Value} {xs : List Value} (h : w.ownsRow base e size v n xs) (k : Nat) (hk : v.ownBlock = some k) : base ≤ k := (h.lt k hk).1
theorem wpList_app {P : Program} {w w0 : World} {ops : Array Oper} {rest : List Oper} {o : Oper} {a : Act} {Q : Exit → Act → World → Prop} {t e : TypeId} {z : Value} {size bytes : Nat} (S : SlInfo P t e z size bytes)
  (hgd : o.guard = none) (s x : Operand) (ho : o.op = .call { callee := .builtin .append, args := #[s, x], argTypes := #[t, t] })
  (base : Nat) (v : Value) (n : Nat) (xs : List Value) (hs : a.eval s = v) (hown : w.ownsRow base e size v n xs) (hB : Below base w0 w) (hbase : base ≤ w.heap.size)
  (A : Option Addr) (m c : Nat) (news : List Value) (hx : a.eval x = .slice A m c) (hl : news.length = m * size) (hr : RV w A news) (h1 : ∀ u ∈ news, u.oneCell' = true)
  (hbytes : (n + m) * bytes ≤ 140737488355328) (hmax : n + m ≤ 140737488355328)
  (h : ∀ v' w', w'.ownsRow base e size v' (n + m) (xs ++ news) → Grew w0 w w' base v v' → (v' = .slice none 0 0 ↔ v = .slice none 0 0 ∧ m = 0) → wpList P ops Q rest (a.put o.dst v') w') :
  wpList P ops Q (o :: rest) a w := by
 obtain ⟨i, hi, hii⟩ := Option.map_eq_some_iff.1 S.hi
 simp only [Prod.mk.injEq] at hii
 obtain ⟨hz0, hz1, hz2⟩ := hii
 by_cases hA : A = none
 ·subst hA
  have hn : news = [] := by
   rcases hr with h | ⟨_, _, h, _⟩
   ·exact h
   ·cases h
  subst hn
  have hm : m = 0 := by
   have h0 : 0 = m * size := by simpa using hl
   rcases Nat.mul_eq_zero.1 h0.symm with h | h
   ·exact h
   ·have := S.hs; omega
  subst hm
  refine wpList_plain hgd fun K hK => ?_
  have hrun := run_append_owned_nil (P := P) (w := w) base t o.type e i size S.ht hi v n xs hown c
  unfold Oper.wp
  simp [execOp, ho, resolve, invoke, builtin, hs, hx, hrun, Result.andThen]
  refine hK _ _ (h v w (by simpa using hown) ⟨⟨rfl, rfl, rfl, Nat.le_refl _, fun _ _ _ => rfl⟩, hB, .inl rfl⟩ (by simp))
 ·obtain ⟨ad, rfl⟩ := Option.ne_none_iff_exists'.1 hA
  refine wpList_append_own_at w hgd s x t ho base e i z size bytes S.ht hi hz0 hz1 hz2 S.hz S.hs v n xs hs hown ad m c news hx hl ?_ h1 (by simp only [maxLen]; omega) hbytes hbase ?_
  ·rcases hr with rfl | ⟨b, o', e', h⟩
   ·intro j u hu; simp at hu
   ·simp only [Option.some.injEq] at e'
    subst e'
    intro j u hu
    have := h j u hu
    rwa [Addr.add_lit]
  ·intro v' w' hown' hg hnil hat
   exact h v' w' hown' ⟨hg, hB.grown hg hbase fun k hk => own_base hown k hk, hat⟩ hnil
theorem u8info : SlInfo Tryz.prog 23 5 (.int .u8 0) 1 1 := ⟨Tryz.underlying23, by kernel_rfl, rfl, by omega⟩
theorem bvs_one (bs : List UInt8) : ∀ u ∈ bvs bs, u.oneCell' = true := by
 intro u hu
 obtain ⟨_, _, rfl⟩ := List.mem_map.1 hu
 rfl
theorem RV.box (w : World) (x : Value) (t : TypeId) : RV (w.alloc (.cells #[x] t)) (some ⟨w.heap.size, 0, none⟩) [x] :=
 .inr ⟨_, _, rfl, fun j v hv => by
  match j, hv with
  | 0, hv => simp at hv; subst hv; rw [cell_of_row _ _ _ _ _ _ (heap_alloc_last w _)]; rfl⟩
theorem RB_box (w : World) (ys : Array Value) (bs : List UInt8) (h : ys.toList = bvs bs) : RB (w.alloc (.cells ys 5)) (some ⟨w.heap.size, 0, none⟩) bs :=
 .inr ⟨_, _, rfl, fun j v hv => by
  rw [cell_of_row _ _ _ _ _ _ (heap_alloc_last w _), ← Array.getElem?_toList, h, Nat.zero_add]
  exact hv⟩
theorem OB_empty (w : World) (base : Nat) (hb : base ≤ w.heap.size) : OB (w.alloc (.cells #[] 5)) base (.slice (some ⟨w.heap.size, 0, none⟩) 0 0) [] :=
 ⟨rfl, .inr ⟨w.heap.size, 0, #[], rfl, hb, heap_alloc_last w _, Nat.le_refl _, by simp [maxLen], rfl, rfl⟩⟩
section
variable {w w0 : World} {ops : Array Oper} {rest : List Oper} {o : Oper} {a : Act} {Q : Exit → Act → World → Prop}
theorem wpList_appB (hgd : o.guard = none) (s x : Operand) (ho : o.op = .call { callee := .builtin .append, args := #[s, x], argTypes := #[23, 23] })
  (base : Nat) (v : Value) (bs : List UInt8) (hs : a.eval s = v) (hown : Hid (OB w base v bs)) (hB : Hid (Below base w0 w)) (hbase : base ≤ w.heap.size)
  (A : Option Addr) (c m : Nat) (news : List UInt8) (hx : a.eval x = .slice A m c) (hm : Hid (m = news.length)) (hr : Hid (RB w A news)) (hmax : bs.length + m ≤ 140737488355328)
  (h : ∀ v' w', Hid (OB w' base v' (bs ++ news)) → Hid (Below base w0 w') → Hid (Grew w0 w w' base v v') → wpList Tryz.prog ops Q rest (a.put o.dst v') w') :
  wpList Tryz.prog ops Q (o :: rest) a w := by
 obtain rfl : m = news.length := hm
 refine wpList_app (w0 := w0) u8info hgd s x ho base v bs.length (bvs bs) hs hown hB hbase A news.length c (bvs news) hx (by rw [bvs_length, Nat.mul_one]) hr (bvs_one news) (by rw [Nat.mul_one]; exact hmax) hmax ?_
 intro v' w' h1 h2 _
 refine h v' w' ?_ h2.below h2
 show w'.ownsRow _ _ _ _ _ _
 rw [bvs_append, List.length_append]
 exact h1
theorem wpList_appB1 (hgd : o.guard = none) (s x : Operand) (ho : o.op = .call { callee := .builtin .append, args := #[s, x], argTypes := #[23, 23] })
  (base : Nat) (v : Value) (bs : List UInt8) (hs : a.eval s = v) (hown : Hid (OB w base v bs)) (hB : Hid (Below base w0 w)) (hbase : base ≤ w.heap.size)
  (b : UInt8) (y : Int) (hy : y = (b.toNat : Int)) (hx : a.eval x = .slice (some ⟨w.heap.size, 0, none⟩) 1 1) (hmax : bs.length < 140737488355328)
  (h : ∀ v' w', Hid (OB w' base v' (bs ++ [b])) → Hid (Below base w0 w') → Hid (Grew w0 (w.alloc (.cells #[.int .u8 y] 5)) w' base v v') → wpList Tryz.prog ops Q rest (a.put o.dst v') w') :
  wpList Tryz.prog ops Q (o :: rest) a (w.alloc (.cells #[.int .u8 y] 5)) := by
 subst hy
 exact wpList_appB (w := w.alloc (.cells #[.int .u8 (b.toNat : Int)] 5)) hgd s x ho base v bs hs (World.ownsRow.alloc hown _) (Below.alloc hB hbase _) (by simp; omega) _ 1 1 [b] hx rfl (RV.box _ _ _) (by omega) h
end
section
variable {w : World} {ops : Array Oper} {rest : List Oper} {o : Oper} {a : Act} {Q : Exit → Act → World → Prop}
end
end Go.Proofs.YtakebdeldndaaaaGreatDoor
/- A region whose order is drawn, by what each of its operations comes to: each is shown once, in whatever world stands there behind others, and what is known of a slot is kept while the world only grows. -/
namespace Go.Proofs.YtakebdeldndaaaaGreatDoor
open Go Go.RowKit
def putAll (v : Nat → Value) : List Oper → Nat → Act → Act
 | [], _, a => a
 | o :: l, i, a => putAll v l (i + 1) (a.put o.dst (v i))
def waitsOn (o : Oper) : List Nat := (o.after.toList.filter (Region.binds .any ·)).map (·.on)
def regionOk (ops : List Oper) (size : Nat) : Bool :=
 (ops.zipIdx.all fun (o, i) => (waitsOn o).all fun j => decide (j < i)) &&
 decide ((ops.filterMap (·.dst)).Nodup) && (ops.filterMap (·.dst)).all fun d => decide (d < size)
def deps (R : Nat → Value → World → Prop) (v : Nat → Value) (w : World) : List Nat → Prop
 | [] => True
 | j :: l => R j (v j) w ∧ deps R v w l
def allOf (R : Nat → Value → World → Prop) (v : Nat → Value) (w : World) : List Oper → Nat → Prop
 | [], _ => True
 | _ :: l, i => R i (v i) w ∧ allOf R v w l (i + 1)
theorem Ext.trans' {a b c : World} (h : Ext a b) (k : Ext b c) : Ext a c := below_all h k
def stepOk (P : Program) (ops : Array Oper) (w0 : World) (a0 : Act) (R : Nat → Value → World → Prop) (i : Nat) (o : Oper) : Prop :=
 ∀ (v : Nat → Value) (w : World), Ext w0 w → deps R v w (waitsOn o) →
  if Region.wanted o (yielded ops (putAll v ops.toList 0 a0).tmps) then o.wp P (putAll v ops.toList 0 a0) w (fun a' w' => ∃ x, a' = (putAll v ops.toList 0 a0).put o.dst x ∧ Ext w w' ∧ R i x w') (fun _ _ _ => False)
  else R i undef w
def allSteps (P : Program) (ops : Array Oper) (w0 : World) (a0 : Act) (R : Nat → Value → World → Prop) : List Oper → Nat → Prop
 | [], _ => True
 | o :: l, i => stepOk P ops w0 a0 R i o ∧ allSteps P ops w0 a0 R l (i + 1)
theorem allSteps_get {P : Program} {ops : Array Oper} {w0 : World} {a0 : Act} {R : Nat → Value → World → Prop} : ∀ (l : List Oper) (k : Nat), allSteps P ops w0 a0 R l k → ∀ i o, l[i]? = some o → stepOk P ops w0 a0 R (k + i) o
 | [], _, _, i, o, h => by simp at h
 | x :: l, k, ⟨h0, h1⟩, i, o, h => by
  cases i with
  | zero => simp at h; subst h; exact h0
  | succ i =>
   have := allSteps_get l (k + 1) h1 i o (by simpa using h)
   rwa [show k + (i + 1) = k + 1 + i by omega]
theorem allOf_mk {R : Nat → Value → World → Prop} {v : Nat → Value} {w : World} : ∀ (l : List Oper) (k : Nat), (∀ i, i < l.length → R (k + i) (v (k + i)) w) → allOf R v w l k
 | [], _, _ => trivial
 | x :: l, k, h => ⟨by simpa using h 0 (by simp), allOf_mk l (k + 1) fun i hi => by
   have := h (i + 1) (by simpa using hi)
   rwa [show k + 1 + i = k + (i + 1) by omega]⟩
theorem deps_mk {R : Nat → Value → World → Prop} {v : Nat → Value} {w : World} : ∀ (l : List Nat), (∀ j ∈ l, R j (v j) w) → deps R v w l
 | [], _ => trivial
 | x :: l, h => ⟨h x (by simp), deps_mk l fun j hj => h j (by simp [hj])⟩
theorem putAll_self (v : Nat → Value) : ∀ (l : List Oper) (k : Nat) (a : Act), (∀ i o d, l[i]? = some o → o.dst = some d → a.tmps[d]? = some (v (k + i))) → putAll v l k a = a
 | [], _, _, _ => rfl
 | o :: l, k, a, h => by
  have h0 : a.put o.dst (v k) = a := by
   cases hd : o.dst with
   | none => rfl
   | some d =>
    have := h 0 o d rfl hd
    obtain ⟨t, df⟩ := a
    simp only [Act.put, Act.mk.injEq, and_true]
    apply Array.ext_getElem?
    intro j
    rw [Array.getElem?_setIfInBounds]
    by_cases e : d = j
    ·subst e; simp only [Nat.add_zero] at this; rw [this]; simp; exact (Array.getElem?_eq_some_iff.1 this).1
    ·simp [e]
  rw [putAll, h0]
  exact putAll_self v l (k + 1) a fun i o' d ho hd => by
   have := h (i + 1) o' d (by simpa using ho) hd
   rwa [show k + 1 + i = k + (i + 1) by omega]
theorem put_comm (a : Act) (x y : Option Tmp) (u v : Value) (h : ∀ d, x = some d → y ≠ some d) : (a.put x u).put y v = (a.put y v).put x u := Act.put_comm a u v h
theorem put_put (a : Act) (x : Option Tmp) (u v : Value) : (a.put x u).put x v = a.put x v := by
 cases x with
 | none => rfl
 | some d => simp [Act.put]
theorem putAll_put (v : Nat → Value) (x : Value) : ∀ (l : List Oper) (k i : Nat) (a : Act) (o : Oper), (l.filterMap (·.dst)).Nodup → l[i]? = some o →
  (putAll v l k a).put o.dst x = putAll (fun j => if j = k + i then x else v j) l k a
 | [], _, i, _, o, _, h => by simp at h
 | p :: l, k, 0, a, o, hn, h => by
  simp only [List.getElem?_cons_zero, Option.some.injEq] at h
  subst h
  simp only [putAll, Nat.add_zero, if_true]
  have hn' : ∀ q ∈ l, ∀ d, p.dst = some d → q.dst ≠ some d := by
   intro q hq d hd hq'
   rw [List.filterMap_cons, hd] at hn
   simp only [List.nodup_cons] at hn
   exact hn.1 (List.mem_filterMap.2 ⟨q, hq, hq'⟩)
  have key : ∀ (l : List Oper) (k' : Nat) (a : Act), k < k' → (∀ q ∈ l, ∀ d, p.dst = some d → q.dst ≠ some d) → (putAll v l k' a).put p.dst x = putAll (fun j => if j = k then x else v j) l k' (a.put p.dst x) := by
   intro l
   induction l with
   | nil => intro k' a _ _; rfl
   | cons q l ih =>
    intro k' a hk hq
    simp only [putAll]
    rw [ih (k' + 1) _ (by omega) (fun r hr => hq r (List.mem_cons_of_mem _ hr)), if_neg (by omega)]
    congr 1
    exact (put_comm a p.dst q.dst x (v k') (fun d hd => hq q (by simp) d hd)).symm
  rw [key l (k + 1) _ (by omega) hn', put_put]
 | p :: l, k, i + 1, a, o, hn, h => by
  simp only [putAll]
  rw [putAll_put v x l (k + 1) i _ o (by
   rw [List.filterMap_cons] at hn
   cases hp : p.dst with
   | none => rw [hp] at hn; exact hn
   | some d => rw [hp] at hn; exact (List.nodup_cons.1 hn).2) (by simpa using h), if_neg (by omega)]
  rw [show k + 1 + i = k + (i + 1) by omega]
theorem wp_post {P : Program} {o : Oper} {a : Act} {w : World} {K : Act → World → Prop} {Q : Exit → Act → World → Prop} (h : o.wp P a w K (fun _ _ _ => False)) : o.wp P a w K Q := by
 unfold Oper.wp at *
 generalize (execOp a.eval o).run P w = r at *
 cases r with
 | ok n w' =>
  cases n <;> simp only [Oper.upon] at h ⊢ <;>
   first
    | exact h
    | exact Calls.mono h (fun e w'' he => by cases e <;> first | exact he | exact he.elim | (obtain ⟨_, _, he⟩ := he; exact he.elim))
 | halt x w' => cases x <;> simp only [Oper.upon] at h ⊢
theorem wp_region_drawn {P : Program} {id : Nat} {l : List Oper} {Q : Exit → Act → World → Prop} {a0 : Act} {w0 : World} (R : Nat → Value → World → Prop)
  (hm : P.follows .mixedOrders = true) (hok : regionOk l a0.tmps.size = true)
  (stab : ∀ i v w w', R i v w → Ext w w' → R i v w')
  (steps : allSteps P l.toArray w0 a0 R l 0)
  (fin : ∀ (v : Nat → Value) (w : World), Ext w0 w → allOf R v w l 0 → Q .normal (putAll v l 0 a0) w) :
  (Code.region id l.toArray true).wp P Q a0 w0 := by
 simp only [regionOk, Bool.and_eq_true, decide_eq_true_eq] at hok
 obtain ⟨⟨hback, hnd⟩, hsz⟩ := hok
 have hback' : ∀ i o, l[i]? = some o → ∀ j ∈ waitsOn o, j < i := by
  intro i o ho j hj
  have h1 := List.all_eq_true.1 hback (o, i) (by
   rw [List.mem_zipIdx_iff_getElem?]; exact ho)
  have h2 := List.all_eq_true.1 h1 j hj
  simpa using h2
 have hwait : ∀ i (listed : Array Bool), i ∈ Region.ready .any l.toArray listed ↔ (i < l.length ∧ listed.getD i true = false ∧ ∀ o, l[i]? = some o → ∀ j ∈ waitsOn o, listed.getD j false = true) := by
  intro i listed
  unfold Region.ready
  simp only [List.mem_filter, List.mem_range, List.size_toArray, Bool.and_eq_true, Bool.not_eq_true']
  refine and_congr_right fun hi => and_congr_right fun _ => ?_
  simp only [List.getElem?_toArray, List.getElem?_eq_getElem hi, Option.map_some, Option.getD_some, Option.some.injEq]
  constructor
  ·intro h o ho j hj
   subst ho
   simp only [waitsOn, List.mem_map, List.mem_filter] at hj
   obtain ⟨e, ⟨he, hb⟩, rfl⟩ := hj
   have := Array.all_eq_true_iff_forall_mem.1 h e (by simpa using he)
   simpa [hb] using this
  ·intro h
   rw [Array.all_eq_true_iff_forall_mem]
   intro e he
   by_cases hb : Region.binds .any e = true
   ·have := h _ rfl e.on (by
     simp only [waitsOn, List.mem_map, List.mem_filter]
     exact ⟨e, ⟨by simpa using he, hb⟩, rfl⟩)
    simp [hb, this]
   ·simp [hb]
 -- the invariant
 have main : ∀ (fuel : Nat) (listed : Array Bool) (v : Nat → Value) (w : World), listed.size = l.length → (listed.toList.filter (· == false)).length ≤ fuel →
   Ext w0 w → (∀ i, listed.getD i false = true → R i (v i) w) → wpAny P .any l.toArray Q fuel listed (putAll v l 0 a0) w := by
  have allDone : ∀ (listed : Array Bool), listed.size = l.length → Region.ready .any l.toArray listed = [] → ∀ i, i < l.length → listed.getD i false = true := by
   intro listed hl hr i
   induction i using Nat.strongRecOn with
   | _ i ih =>
    intro hi
    by_cases hd : listed.getD i false = true
    ·exact hd
    ·exfalso
     have : i ∈ Region.ready .any l.toArray listed := by
      rw [hwait]
      refine ⟨hi, ?_, fun o ho j hj => ih j (hback' i o ho j hj) (by have := hback' i o ho j hj; omega)⟩
      simp only [Array.getD_eq_getD_getElem?] at hd ⊢
      rw [Array.getElem?_eq_getElem (by omega)] at hd ⊢
      simpa using hd
     rw [hr] at this
     cases this
  have finish : ∀ (listed : Array Bool) (v : Nat → Value) (w : World), listed.size = l.length → Region.ready .any l.toArray listed = [] → Ext w0 w → (∀ i, listed.getD i false = true → R i (v i) w) → Q .normal (putAll v l 0 a0) w :=
   fun listed v w hl hr hE hR => fin v w hE (allOf_mk l 0 fun i hi => by
    rw [Nat.zero_add]; exact hR i (allDone listed hl hr i hi))
  intro fuel
  induction fuel with
  | zero =>
   intro listed v w hl hf hE hR
   have hnil : Region.ready .any l.toArray listed = [] := by
    apply List.eq_nil_iff_forall_not_mem.2
    intro i hi
    rw [hwait] at hi
    obtain ⟨hil, hu, -⟩ := hi
    have he : listed.toList.filter (· == false) = [] := List.eq_nil_of_length_eq_zero (by omega)
    rw [List.filter_eq_nil_iff] at he
    have hil' : i < listed.size := by omega
    have := he listed[i] (by simp)
    rw [Array.getD_eq_getD_getElem?, Array.getElem?_eq_getElem hil'] at hu
    simp only [Option.getD_some] at hu
    simp [hu] at this
   exact ⟨hnil, finish listed v w hl hnil hE hR⟩
  | succ fuel ih =>
   intro listed v w hl hf hE hR
   refine ⟨fun hr => finish listed v w hl hr hE hR, fun i hi => ?_⟩
   obtain ⟨hil, hu, hdep⟩ := (hwait i listed).1 hi
   have ho : l[i]? = some l[i] := List.getElem?_eq_getElem hil
   have hst := allSteps_get l 0 steps i l[i] ho
   rw [Nat.zero_add] at hst
   have hst := hst v w hE (deps_mk _ fun j hj => hR j (hdep _ ho j hj))
   have next : ∀ x w', Ext w w' → R i x w' → wpAny P .any l.toArray Q fuel (listed.setIfInBounds i true) ((putAll v l 0 a0).put l[i].dst x) w' := by
    intro x w' hE' hx
    rw [putAll_put v x l 0 i a0 l[i] hnd ho]
    refine ih (listed.setIfInBounds i true) _ w' (by simpa using hl) ?_ (Ext.trans' hE hE') ?_
    ·-- one fewer
     have hil' : i < listed.size := by omega
     have hfalse : listed[i] = false := by
      rw [Array.getD_eq_getD_getElem?, Array.getElem?_eq_getElem hil'] at hu
      simpa using hu
     have e1 : listed.toList = listed.toList.take i ++ false :: listed.toList.drop (i + 1) := by
      rw [← hfalse]
      conv => lhs; rw [← List.take_append_drop i listed.toList]
      congr 1
      rw [List.drop_eq_getElem_cons (by simpa using hil')]
      simp
     have e2 : (listed.setIfInBounds i true).toList = listed.toList.take i ++ true :: listed.toList.drop (i + 1) := by
      rw [Array.toList_setIfInBounds, List.set_eq_take_append_cons_drop, if_pos (by simpa using hil')]
     rw [e1] at hf
     rw [e2]
     simp only [List.filter_append, List.filter_cons, List.length_append] at hf ⊢
     simp at hf ⊢
     omega
    ·intro j hj
     by_cases e : j = 0 + i
     ·rw [if_pos e]
      have : j = i := by omega
      subst this
      exact hx
     ·rw [if_neg e]
      have hne : i ≠ j := by omega
      refine stab j _ w w' (hR j ?_) hE'
      rw [Array.getD_eq_getD_getElem?, Array.getElem?_setIfInBounds_ne hne, ← Array.getD_eq_getD_getElem?] at hj
      exact hj
   unfold wpOp
   simp only [List.getElem?_toArray, ho]
   split
   ·rename_i hw
    rw [if_pos hw] at hst
    refine .inl ?_
    have h1 := Oper.wp_mono (K' := wpAny P .any l.toArray Q fuel (listed.setIfInBounds i true)) (h := fun a' w' ⟨x, e, hE', hx⟩ => by rw [e]; exact next x w' hE' hx) hst
    exact wp_post h1
   ·rename_i hw
    rw [if_neg hw] at hst
    exact next undef w (Below.refl _ _) hst
 refine wp_region_any hm ?_
 have hE : Ext w0 { w0 with drawn := w0.drawn + 1 } := ⟨rfl, rfl, rfl, Nat.le_refl _, fun _ _ => rfl⟩
 let v0 : Nat → Value := fun i => match l[i]? with | some o => (match o.dst with | some d => a0.tmps.getD d undef | none => undef) | none => undef
 have hself : putAll v0 l 0 a0 = a0 := putAll_self v0 l 0 a0 fun i o d ho hd => by
  have hdl : d < a0.tmps.size := by
   have := List.all_eq_true.1 hsz d (List.mem_filterMap.2 ⟨o, List.mem_of_getElem? ho, hd⟩)
   simpa using this
  simp only [v0, Nat.zero_add, ho, hd]
  rw [Array.getD_eq_getD_getElem?, Array.getElem?_eq_getElem hdl]
  rfl
 have := main l.toArray.size (Array.replicate l.toArray.size false) v0 { w0 with drawn := w0.drawn + 1 } (by simp) (by simp) hE (by
  intro i hi
  exfalso
  rw [Array.getD_eq_getD_getElem?, Array.getElem?_replicate] at hi
  split at hi <;> simp at hi)
 rw [hself] at this
 exact this
def stepOk' (P : Program) (ops : Array Oper) (w0 : World) (a0 : Act) (R : Nat → Value → World → Prop) (base : List Oper) (i : Nat) (o : Oper) : Prop :=
 ∀ (v : Nat → Value) (w : World), Ext w0 w → deps R v w (waitsOn o) →
  if Region.wanted o (yielded ops (putAll v base 0 a0).tmps) then o.wp P (putAll v base 0 a0) w (fun a' w' => ∃ x, a' = (putAll v base 0 a0).put o.dst x ∧ Ext w w' ∧ R i x w') (fun _ _ _ => False)
  else R i undef w
def allSteps' (P : Program) (ops : Array Oper) (w0 : World) (a0 : Act) (R : Nat → Value → World → Prop) (base : List Oper) : List Oper → Nat → Prop
 | [], _ => True
 | o :: l, i => stepOk' P ops w0 a0 R base i o ∧ allSteps' P ops w0 a0 R base l (i + 1)
theorem allSteps'_get {P : Program} {ops : Array Oper} {w0 : World} {a0 : Act} {R : Nat → Value → World → Prop} {base : List Oper} : ∀ (l : List Oper) (k : Nat), allSteps' P ops w0 a0 R base l k → ∀ i o, l[i]? = some o → stepOk' P ops w0 a0 R base (k + i) o
 | [], _, _, i, o, h => by simp at h
 | x :: l, k, ⟨h0, h1⟩, i, o, h => by
  cases i with
  | zero => simp at h; subst h; exact h0
  | succ i =>
   have := allSteps'_get l (k + 1) h1 i o (by simpa using h)
   rwa [show k + (i + 1) = k + 1 + i by omega]
/-! ### The same, the last operations left to the walk: the first of them waits, through others, on all ahead of it, each further one on the one ahead of it -/
def covered (l : List Oper) (p : Nat) : Bool :=
 ((List.range p).all fun i => (l.zipIdx.any fun (o, j) => decide (i < j) && decide (j ≤ p) && (waitsOn o).contains i)) &&
 (l.zipIdx.all fun (o, j) => !decide (p < j) || (waitsOn o).contains (j - 1))
theorem wpAny_chain {P : Program} {Q : Exit → Act → World → Prop} {ops : List Oper} (hwait : ∀ i (listed : Array Bool), i ∈ Region.ready .any ops.toArray listed ↔ (i < ops.length ∧ listed.getD i true = false ∧ ∀ o, ops[i]? = some o → ∀ j ∈ waitsOn o, listed.getD j false = true))
  (hback : ∀ i o, ops[i]? = some o → ∀ j ∈ waitsOn o, j < i) (p : Nat) (hchain : ∀ i o, ops[i]? = some o → p < i → i - 1 ∈ waitsOn o) :
  ∀ (suf : List Oper) (k : Nat), ops.drop k = suf → k ≤ ops.length → p ≤ k → ∀ (listed : Array Bool), listed.size = ops.length → (∀ i, i < ops.length → listed.getD i false = decide (i < k)) →
  ∀ (fuel : Nat), suf.length ≤ fuel → ∀ a w, wpList P ops.toArray Q suf a w → wpAny P .any ops.toArray Q fuel listed a w := by
 intro suf
 induction suf with
 | nil =>
  intro k hd hk _ listed hl hli fuel _ a w h
  have hkl : ops.length ≤ k := by
   have := congrArg List.length hd
   simp at this
   omega
  refine wpAny_done (List.eq_nil_iff_forall_not_mem.2 fun i hi => ?_) h fuel
  rw [hwait] at hi
  have h1 := hli i hi.1
  have h2 := hi.2.1
  have hil := hi.1
  rw [Array.getD_eq_getD_getElem?, Array.getElem?_eq_getElem (by omega)] at h1 h2
  simp at h1 h2
  rw [h1] at h2
  simp at h2
  omega
 | cons o suf ih =>
  intro k hd hk hpk listed hl hli fuel hf a w h
  have hkl : k < ops.length := by
   have := congrArg List.length hd
   simp at this
   omega
  have ho : ops[k]? = some o := by
   have := congrArg (fun l : List Oper => l[0]?) hd
   simpa using this
  cases fuel with
  | zero => simp at hf
  | succ fuel =>
   have hfalse : ∀ i, i < ops.length → k ≤ i → listed.getD i false = false := fun i hi hki => by rw [hli i hi]; simp; omega
   have hready : ∀ i, i ∈ Region.ready .any ops.toArray listed ↔ i = k := by
    intro i
    rw [hwait]
    constructor
    ·rintro ⟨hi, hu, hdep⟩
     have hki : k ≤ i := by
      rcases Nat.lt_or_ge i k with h' | h'
      ·have := hli i hi
       rw [Array.getD_eq_getD_getElem?, Array.getElem?_eq_getElem (by omega)] at this hu
       simp at this hu
       rw [hu] at this
       simp at this
       omega
      ·exact h'
     rcases Nat.lt_or_ge k i with h' | h'
     ·have hoi : ops[i]? = some ops[i] := List.getElem?_eq_getElem hi
      have := hdep _ hoi (i - 1) (hchain i _ hoi (by omega))
      rw [hfalse (i - 1) (by omega) (by omega)] at this
      cases this
     ·omega
    ·rintro rfl
     refine ⟨hkl, ?_, fun o' ho' j hj => ?_⟩
     ·have := hfalse i hkl (Nat.le_refl _)
      rw [Array.getD_eq_getD_getElem?, Array.getElem?_eq_getElem (by omega)] at this ⊢
      simpa using this
     ·have hji := hback i o' ho' j hj
      rw [hli j (by omega)]
      simpa using hji
   refine ⟨fun hr => ?_, fun i hi => ?_⟩
   ·have := (hready k).2 rfl
    rw [hr] at this
    cases this
   ·obtain rfl := (hready i).1 hi
    have next : ∀ a w, wpList P ops.toArray Q suf a w → wpAny P .any ops.toArray Q fuel (listed.setIfInBounds i true) a w := by
     intro a w h
     refine ih (i + 1) ?_ (by omega) (by omega) _ (by simpa using hl) (fun j hj => ?_) fuel (by simpa using hf) a w h
     ·have := congrArg (List.drop 1) hd
      simpa [List.drop_drop] using this
     ·rw [Array.getD_eq_getD_getElem?, Array.getElem?_setIfInBounds]
      by_cases e : i = j
      ·subst e; rw [if_pos rfl, if_pos (by omega)]; simp
      ·rw [if_neg e, ← Array.getD_eq_getD_getElem?, hli j hj]
       simp; omega
    unfold wpOp
    simp only [List.getElem?_toArray, ho]
    unfold wpList at h
    split
    ·rename_i hw
     rw [if_pos hw] at h
     exact h.imp (fun h => Oper.wp_mono (fun a w h => next a w h) h) (fun h => h)
    ·rename_i hw
     rw [if_neg hw] at h
     exact next _ _ h
theorem wp_region_drawn_last {P : Program} {id : Nat} {l : List Oper} {last : Oper} {tail : List Oper} {Q : Exit → Act → World → Prop} {a0 : Act} {w0 : World} (R : Nat → Value → World → Prop)
  (hm : P.follows .mixedOrders = true) (hok : regionOk (l ++ last :: tail) a0.tmps.size = true) (hcov : covered (l ++ last :: tail) l.length = true)
  (stab : ∀ i v w w', R i v w → Ext w w' → R i v w')
  (steps : allSteps' P (l ++ last :: tail).toArray w0 a0 R l l 0)
  (fin : ∀ (v : Nat → Value) (w : World), Ext w0 w → allOf R v w l 0 → wpList P (l ++ last :: tail).toArray Q (last :: tail) (putAll v l 0 a0) w) :
  (Code.region id (l ++ last :: tail).toArray true).wp P Q a0 w0 := by
 simp only [regionOk, Bool.and_eq_true, decide_eq_true_eq] at hok
 obtain ⟨⟨hback, hnd⟩, hsz⟩ := hok
 have hll : (l ++ last :: tail).length = l.length + 1 + tail.length := by simp; omega
 have hback' : ∀ i o, (l ++ last :: tail)[i]? = some o → ∀ j ∈ waitsOn o, j < i := by
  intro i o ho j hj
  have h1 := List.all_eq_true.1 hback (o, i) (by
   rw [List.mem_zipIdx_iff_getElem?]; exact ho)
  have h2 := List.all_eq_true.1 h1 j hj
  simpa using h2
 simp only [covered, Bool.and_eq_true] at hcov
 obtain ⟨hcov1, hcov2⟩ := hcov
 have hcov' : ∀ i, i < l.length → ∃ j o, i < j ∧ j ≤ l.length ∧ (l ++ last :: tail)[j]? = some o ∧ i ∈ waitsOn o := by
  intro i hi
  have h1 := List.all_eq_true.1 hcov1 i (by simp; exact hi)
  obtain ⟨⟨o, j⟩, hmem, h2⟩ := List.any_eq_true.1 h1
  rw [List.mem_zipIdx_iff_getElem?] at hmem
  simp only [Bool.and_eq_true, decide_eq_true_eq, List.contains_iff_mem] at h2
  exact ⟨j, o, h2.1.1, h2.1.2, hmem, h2.2⟩
 have hchain : ∀ i o, (l ++ last :: tail)[i]? = some o → l.length < i → i - 1 ∈ waitsOn o := by
  intro i o ho hi
  have h1 := List.all_eq_true.1 hcov2 (o, i) (by rw [List.mem_zipIdx_iff_getElem?]; exact ho)
  simpa [hi] using h1
 have hwait : ∀ i (listed : Array Bool), i ∈ Region.ready .any (l ++ last :: tail).toArray listed ↔ (i < (l ++ last :: tail).length ∧ listed.getD i true = false ∧ ∀ o, (l ++ last :: tail)[i]? = some o → ∀ j ∈ waitsOn o, listed.getD j false = true) := by
  intro i listed
  unfold Region.ready
  simp only [List.mem_filter, List.mem_range, List.size_toArray, Bool.and_eq_true, Bool.not_eq_true']
  refine and_congr_right fun hi => and_congr_right fun _ => ?_
  simp only [List.getElem?_toArray, List.getElem?_eq_getElem hi, Option.map_some, Option.getD_some, Option.some.injEq]
  constructor
  ·intro h o ho j hj
   subst ho
   simp only [waitsOn, List.mem_map, List.mem_filter] at hj
   obtain ⟨e, ⟨he, hb⟩, rfl⟩ := hj
   have := Array.all_eq_true_iff_forall_mem.1 h e (by simpa using he)
   simpa [hb] using this
  ·intro h
   rw [Array.all_eq_true_iff_forall_mem]
   intro e he
   by_cases hb : Region.binds .any e = true
   ·have := h _ rfl e.on (by
     simp only [waitsOn, List.mem_map, List.mem_filter]
     exact ⟨e, ⟨by simpa using he, hb⟩, rfl⟩)
    simp [hb, this]
   ·simp [hb]
 have hnd1 : (l.filterMap (·.dst)).Nodup := by
  rw [List.filterMap_append] at hnd
  exact (List.nodup_append.1 hnd).1
 have main : ∀ (fuel : Nat) (listed : Array Bool) (v : Nat → Value) (w : World), listed.size = l.length + 1 + tail.length → (listed.toList.filter (· == false)).length ≤ fuel →
   (∀ k, l.length ≤ k → k < l.length + 1 + tail.length → listed.getD k true = false) → (∀ i o, listed.getD i false = true → (l ++ last :: tail)[i]? = some o → ∀ j ∈ waitsOn o, listed.getD j false = true) →
   Ext w0 w → (∀ i, listed.getD i false = true → R i (v i) w) → wpAny P .any (l ++ last :: tail).toArray Q fuel listed (putAll v l 0 a0) w := by
  intro fuel
  induction fuel with
  | zero =>
   intro listed v w hl hf hlast _ _ _
   exfalso
   have he : listed.toList.filter (· == false) = [] := List.eq_nil_of_length_eq_zero (by omega)
   rw [List.filter_eq_nil_iff] at he
   have hil' : l.length < listed.size := by omega
   have := he listed[l.length] (by simp)
   have hlast := hlast l.length (Nat.le_refl _) (by omega)
   rw [Array.getD_eq_getD_getElem?, Array.getElem?_eq_getElem hil'] at hlast
   simp only [Option.getD_some] at hlast
   simp [hlast] at this
  | succ fuel ih =>
   intro listed v w hl hf hlast hdown hE hR
   have hnot : Region.ready .any (l ++ last :: tail).toArray listed ≠ [] := by
    -- the least that is not listed is ready
    intro hnil
    have all : ∀ i, i < l.length + 1 + tail.length → listed.getD i false = true := by
     intro i
     induction i using Nat.strongRecOn with
     | _ i ih2 =>
      intro hi
      by_cases hd : listed.getD i false = true
      ·exact hd
      ·exfalso
       have : i ∈ Region.ready .any (l ++ last :: tail).toArray listed := by
        rw [hwait]
        refine ⟨by omega, ?_, fun o ho j hj => ih2 j (hback' i o ho j hj) (by have := hback' i o ho j hj; omega)⟩
        simp only [Array.getD_eq_getD_getElem?] at hd ⊢
        rw [Array.getElem?_eq_getElem (by omega)] at hd ⊢
        simpa using hd
       rw [hnil] at this
       cases this
    have h1 := all l.length (by omega)
    have hlast := hlast l.length (Nat.le_refl _) (by omega)
    rw [Array.getD_eq_getD_getElem?, Array.getElem?_eq_getElem (by omega)] at h1 hlast
    simp at h1 hlast
    rw [h1] at hlast
    cases hlast
   refine ⟨fun hr => absurd hr hnot, fun i hi => ?_⟩
   obtain ⟨hil, hu, hdep⟩ := (hwait i listed).1 hi
   have ho : (l ++ last :: tail)[i]? = some (l ++ last :: tail)[i] := List.getElem?_eq_getElem hil
   by_cases hi1 : i < l.length
   ·have ho1 : l[i]? = some (l ++ last :: tail)[i] := by rw [← ho, List.getElem?_append_left hi1]
    have hst := allSteps'_get l 0 steps i _ ho1
    rw [Nat.zero_add] at hst
    have hst := hst v w hE (deps_mk _ fun j hj => hR j (hdep _ ho j hj))
    have next : ∀ x w', Ext w w' → R i x w' → wpAny P .any (l ++ last :: tail).toArray Q fuel (listed.setIfInBounds i true) ((putAll v l 0 a0).put (l ++ last :: tail)[i].dst x) w' := by
     intro x w' hE' hx
     rw [putAll_put v x l 0 i a0 _ hnd1 ho1]
     refine ih (listed.setIfInBounds i true) _ w' (by simpa using hl) ?_ ?_ ?_ (Ext.trans' hE hE') ?_
     ·have hil' : i < listed.size := by omega
      have hfalse : listed[i] = false := by
       rw [Array.getD_eq_getD_getElem?, Array.getElem?_eq_getElem hil'] at hu
       simpa using hu
      have e1 : listed.toList = listed.toList.take i ++ false :: listed.toList.drop (i + 1) := by
       rw [← hfalse]
       conv => lhs; rw [← List.take_append_drop i listed.toList]
       congr 1
       rw [List.drop_eq_getElem_cons (by simpa using hil')]
       simp
      have e2 : (listed.setIfInBounds i true).toList = listed.toList.take i ++ true :: listed.toList.drop (i + 1) := by
       rw [Array.toList_setIfInBounds, List.set_eq_take_append_cons_drop, if_pos (by simpa using hil')]
      rw [e1] at hf
      rw [e2]
      simp only [List.filter_append, List.filter_cons, List.length_append] at hf ⊢
      simp at hf ⊢
      omega
     ·intro k hk1 hk2
      rw [Array.getD_eq_getD_getElem?, Array.getElem?_setIfInBounds_ne (by omega), ← Array.getD_eq_getD_getElem?]
      exact hlast k hk1 hk2
     ·intro k o hk hko j hj
      have hset : ∀ j, listed.getD j false = true → (listed.setIfInBounds i true).getD j false = true := by
       intro j h
       rw [Array.getD_eq_getD_getElem?] at h ⊢
       rw [Array.getElem?_setIfInBounds]
       split
       ·split <;> simp_all
       ·exact h
      by_cases e : k = i
      ·subst e
       have : o = (l ++ last :: tail)[k] := by rw [ho] at hko; exact (Option.some.inj hko).symm
       subst this
       exact hset j (hdep _ ho j hj)
      ·refine hset j (hdown k o ?_ hko j hj)
       rw [Array.getD_eq_getD_getElem?, Array.getElem?_setIfInBounds_ne (Ne.symm e), ← Array.getD_eq_getD_getElem?] at hk
       exact hk
     ·intro j hj
      by_cases e : j = 0 + i
      ·rw [if_pos e]
       have : j = i := by omega
       subst this
       exact hx
      ·rw [if_neg e]
       have hne : i ≠ j := by omega
       refine stab j _ w w' (hR j ?_) hE'
       rw [Array.getD_eq_getD_getElem?, Array.getElem?_setIfInBounds_ne hne, ← Array.getD_eq_getD_getElem?] at hj
       exact hj
    unfold wpOp
    simp only [List.getElem?_toArray, ho]
    split
    ·rename_i hw
     rw [if_pos hw] at hst
     exact .inl (wp_post (Oper.wp_mono (K' := wpAny P .any (l ++ last :: tail).toArray Q fuel (listed.setIfInBounds i true)) (h := fun a' w' ⟨x, e, hE', hx⟩ => by rw [e]; exact next x w' hE' hx) hst))
    ·rename_i hw
     rw [if_neg hw] at hst
     exact next undef w (Below.refl _ _) hst
   ·-- the first of the last: all ahead of it are there, none of the others
    have hie : i = l.length := by
     rcases Nat.lt_or_ge l.length i with h' | h'
     ·exfalso
      have := hdep _ ho (i - 1) (hchain i _ ho h')
      have h2 := hlast (i - 1) (by omega) (by omega)
      rw [Array.getD_eq_getD_getElem?, Array.getElem?_eq_getElem (by omega)] at this h2
      simp at this h2
      rw [h2] at this
      cases this
     ·omega
    subst hie
    have hall : ∀ k, k ≤ l.length → ∀ i, i < l.length → l.length - i ≤ k → listed.getD i false = true := by
     intro k
     induction k with
     | zero => intro _ i hi hk; omega
     | succ k ihk =>
      intro hk1 i hi hk
      obtain ⟨j, o, hij, hjl, hjo, hmem⟩ := hcov' i hi
      by_cases hj : j < l.length
      ·exact hdown j o (ihk (by omega) j hj (by omega)) hjo i hmem
      ·have hj' : j = l.length := by omega
       subst hj'
       exact hdep o hjo i hmem
    have hf' := fin v w hE (allOf_mk l 0 fun i hi => by rw [Nat.zero_add]; exact hR i (hall l.length (Nat.le_refl _) i hi (by omega)))
    have hch := wpAny_chain (P := P) (Q := Q) hwait hback' l.length hchain (last :: tail) l.length (by simp) (by omega) (Nat.le_refl _) listed (by omega) (fun i hi => by
     by_cases h' : i < l.length
     ·rw [hall l.length (Nat.le_refl _) i h' (by omega)]; simpa using h'
     ·have h2 := hlast i (by omega) (by omega)
      rw [Array.getD_eq_getD_getElem?, Array.getElem?_eq_getElem (by omega)] at h2 ⊢
      simp at h2 ⊢
      rw [h2]; simpa using h') (fuel + 1) (by
       -- what is not listed is at least as much
       have hlen : (last :: tail).length ≤ (listed.toList.filter (· == false)).length := by
        have e1 : listed.toList = listed.toList.take l.length ++ listed.toList.drop l.length := (List.take_append_drop _ _).symm
        rw [e1, List.filter_append, List.length_append]
        have e2 : (listed.toList.drop l.length).filter (· == false) = listed.toList.drop l.length := by
         rw [List.filter_eq_self]
         intro b hb
         obtain ⟨k, hk, rfl⟩ := List.mem_iff_getElem.1 hb
         simp at hk
         have h2 := hlast (l.length + k) (by omega) (by omega)
         rw [Array.getD_eq_getD_getElem?, Array.getElem?_eq_getElem (by omega)] at h2
         simp at h2
         simp [h2]
        rw [e2]
        simp
        omega
       omega) _ w hf'
    exact hch.2 l.length hi
 refine wp_region_any hm ?_
 have hE : Ext w0 { w0 with drawn := w0.drawn + 1 } := ⟨rfl, rfl, rfl, Nat.le_refl _, fun _ _ => rfl⟩
 let v0 : Nat → Value := fun i => match l[i]? with | some o => (match o.dst with | some d => a0.tmps.getD d undef | none => undef) | none => undef
 have hself : putAll v0 l 0 a0 = a0 := putAll_self v0 l 0 a0 fun i o d ho hd => by
  have hdl : d < a0.tmps.size := by
   have := List.all_eq_true.1 hsz d (List.mem_filterMap.2 ⟨o, List.mem_append_left _ (List.mem_of_getElem? ho), hd⟩)
   simpa using this
  simp only [v0, Nat.zero_add, ho, hd]
  rw [Array.getD_eq_getD_getElem?, Array.getElem?_eq_getElem hdl]
  rfl
 have hnone : ∀ i, (Array.replicate (l ++ last :: tail).toArray.size false).getD i false = true → False := by
  intro i hi
  rw [Array.getD_eq_getD_getElem?, Array.getElem?_replicate] at hi
  split at hi <;> simp at hi
 have := main (l ++ last :: tail).toArray.size (Array.replicate (l ++ last :: tail).toArray.size false) v0 { w0 with drawn := w0.drawn + 1 } (by simp; omega) (by simp)
  (fun k _ hk => by rw [Array.getD_eq_getD_getElem?, Array.getElem?_replicate, if_pos (by simp; omega)]; rfl) (fun i o hi => (hnone i hi).elim) hE (fun i hi => (hnone i hi).elim)
 rw [hself] at this
 exact this
structure SPred where
 p : Value → World → Prop
 st : ∀ v w w', p v w → Ext w w' → p v w'
def isV (x : Value) : SPred := ⟨fun v _ => v = x, fun _ _ _ h _ => h⟩
def anyV : SPred := ⟨fun _ _ => True, fun _ _ _ _ _ => trivial⟩
def knowing (Rs : List SPred) (i : Nat) : Value → World → Prop := (Rs.getD i anyV).p
theorem wp_drawn {P : Program} {id : Nat} {l : List Oper} {Q : Exit → Act → World → Prop} {a0 : Act} {w0 : World} (Rs : List SPred)
  (hm : P.follows .mixedOrders = true) (hok : regionOk l a0.tmps.size = true)
  (steps : allSteps P l.toArray w0 a0 (knowing Rs) l 0)
  (fin : ∀ (v : Nat → Value) (w : World), Ext w0 w → allOf (knowing Rs) v w l 0 → Q .normal (putAll v l 0 a0) w) :
  (Code.region id l.toArray true).wp P Q a0 w0 :=
 wp_region_drawn (knowing Rs) hm hok (fun i v w w' h hE => (Rs.getD i anyV).st v w w' h hE) steps fin
theorem wp_drawn_last {P : Program} {id : Nat} {ops : List Oper} (p : Nat) {Q : Exit → Act → World → Prop} {a0 : Act} {w0 : World} (Rs : List SPred) (hp : p < ops.length)
  (hm : P.follows .mixedOrders = true) (hok : regionOk ops a0.tmps.size = true) (hcov : covered ops p = true)
  (steps : allSteps' P ops.toArray w0 a0 (knowing Rs) (ops.take p) (ops.take p) 0)
  (fin : ∀ (v : Nat → Value) (w : World), Ext w0 w → allOf (knowing Rs) v w (ops.take p) 0 → wpList P ops.toArray Q (ops.drop p) (putAll v (ops.take p) 0 a0) w) :
  (Code.region id ops.toArray true).wp P Q a0 w0 := by
 have e : ops = ops.take p ++ ops.drop p := (List.take_append_drop _ _).symm
 obtain ⟨x, t, ht⟩ : ∃ x t, ops.drop p = x :: t := ⟨_, _, List.drop_eq_getElem_cons hp⟩
 have hl : (ops.take p).length = p := by simp; omega
 rw [ht] at e fin
 generalize ops.take p = l at e steps fin hl
 subst e
 subst hl
 exact wp_region_drawn_last (knowing Rs) hm hok hcov (fun i v w w' h hE => (Rs.getD i anyV).st v w w' h hE) steps fin
end Go.Proofs.YtakebdeldndaaaaGreatDoor
/- Bytes as strings: what 'string(b)' of a slice tells, and bytes.Equal. -/
namespace Go.Proofs.YtakebdeldndaaaaGreatDoor
open Go Go.RowKit
set_option maxRecDepth 100000
def str (bs : List UInt8) : ByteArray := ⟨bs.toArray⟩
theorem str_toList (bs : List UInt8) : (str bs).toList = bs := by
 rw [ByteArray.toList_eq]; simp [str]
theorem str_size (bs : List UInt8) : (str bs).size = bs.length := rfl
theorem run_str {w : World} {A : Option Addr} {bs : List UInt8} (h : RB w A bs) (c : Nat) :
  (convert 23 9 (.slice A bs.length c)).run Tryz.prog w = .ok (.string (str bs)) w := by
 rcases h with h | ⟨b, o, rfl, h⟩
 ·have hb : bs = [] := by cases bs with
   | nil => rfl
   | cons x l => simp [bvs] at h
  subst hb
  rw [run_convert_bytes_string w 23 9 _ _ _ c Tryz.underlying23 Tryz.underlying5 Tryz.underlying9]
  cases A <;> simp [Conv.bytesToString, loadCells, loadCellsFrom] <;> rfl
 ·have := run_convert_bytes_arg (P := Tryz.prog) w 23 5 Tryz.underlying23 Tryz.underlying5 b o bs.length c (bs.map fun x => (x.toNat : Int)) (by simp) (fun i hi => by
   have := h i (bv bs[i]) (by simp [bvs, hi])
   rw [this]
   simp [bv, hi]) 9 Tryz.underlying9
  rw [this]
  congr 2
  simp [strOfNums, str, Function.comp_def]
theorem equal_calls (A1 A2 : Option Addr) (c1 c2 : Nat) (x y : List UInt8) (w : World) (h1 : RB w A1 x) (h2 : RB w A2 y) :
  Calls Tryz.prog 117 #[.slice A1 x.length c1, .slice A2 y.length c2] w fun e w' => e = .returned (.bool (x == y)) ∧ w = w' := by
 have e1 := run_str h1 c1
 have e2 := run_str h2 c2
 have e3 := str_toList x
 have e4 := str_toList y
 clear h1 h2
 go_enter Tryz.func117, Tryz.ntmps117
 go_wp2
 go_ret
 exact ⟨rfl, rfl⟩
def ownsV (base : Nat) (bs : List UInt8) : SPred := ⟨fun v w => OB w base v bs, fun _ _ _ h hE => h.below hE⟩
end Go.Proofs.YtakebdeldndaaaaGreatDoor
/- How plain data lies in memory: a kind of data, the cells that bear it, and the blocks that it leads to; slices of such data, read and owned. -/
namespace Go.Proofs.YtakebdeldndaaaaGreatDoor
open Go Go.RowKit
set_option maxRecDepth 100000
set_option linter.unusedVariables false
def RK (w : World) (K : Nat → Prop) (A : Option Addr) (cs : List Value) : Prop :=
 cs = [] ∨ ∃ b o, A = some ⟨b, o, none⟩ ∧ K b ∧ ∀ j v, cs[j]? = some v → w.cell? ⟨b, o + j, none⟩ = some v
theorem RK.rv {w : World} {K : Nat → Prop} {A : Option Addr} {cs : List Value} (h : RK w K A cs) : RV w A cs := by
 rcases h with h | ⟨b, o, e, -, h⟩
 ·exact .inl h
 ·exact .inr ⟨b, o, e, h⟩
theorem RK.of_rv {w : World} {K : Nat → Prop} {A : Option Addr} {cs : List Value} (h : RV w A cs) (hk : ∀ b o, A = some ⟨b, o, none⟩ → b < w.heap.size → K b) : RK w K A cs := by
 rcases h with h | ⟨b, o, e, h⟩
 ·exact .inl h
 ·cases cs with
  | nil => exact .inl rfl
  | cons v l => exact .inr ⟨b, o, e, hk b o e (World.block_lt_of_cell? w ⟨b, o + 0, none⟩ (h 0 v rfl)), h⟩
theorem RK.ext {w w' : World} {K : Nat → Prop} {A : Option Addr} {cs : List Value} (h : RK w K A cs) (hk : ∀ k, K k → w'.heap[k]? = w.heap[k]?) : RK w' K A cs := by
 rcases h with h | ⟨b, o, e, kb, h⟩
 ·exact .inl h
 ·exact .inr ⟨b, o, e, kb, fun j v hv => by rw [← h j v hv]; exact World.cell?_of_block (hk b kb)⟩
theorem RK.mono {w : World} {K K' : Nat → Prop} {A : Option Addr} {cs : List Value} (h : RK w K A cs) (hk : ∀ k, K k → K' k) : RK w K' A cs := by
 rcases h with h | ⟨b, o, e, kb, h⟩
 ·exact .inl h
 ·exact .inr ⟨b, o, e, hk b kb, h⟩
structure Rep (α : Type) where
 size : Nat
 rel : World → (Nat → Prop) → α → List Value → Prop
 len : ∀ {w K x cs}, rel w K x cs → cs.length = size
 one : ∀ {w K x cs}, rel w K x cs → ∀ u ∈ cs, u.oneCell' = true
 ext : ∀ {w w' K x cs}, rel w K x cs → (∀ k, K k → w'.heap[k]? = w.heap[k]?) → rel w' K x cs
 mono : ∀ {w K K' x cs}, rel w K x cs → (∀ k, K k → K' k) → rel w K' x cs
def Rows {α : Type} (R : Rep α) (w : World) (K : Nat → Prop) : List α → List Value → Prop
 | [], cs => cs = []
 | x :: xs, cs => ∃ c r, cs = c ++ r ∧ R.rel w K x c ∧ Rows R w K xs r
section
variable {α : Type} {R : Rep α} {w w' : World} {K K' : Nat → Prop}
theorem Rows.len : ∀ {xs : List α} {cs : List Value}, Rows R w K xs cs → cs.length = xs.length * R.size
 | [], _, h => by subst h; simp
 | x :: xs, _, ⟨c, r, e, hc, hr⟩ => by
  subst e
  rw [List.length_append, R.len hc, hr.len, List.length_cons, Nat.add_mul]
  omega
theorem Rows.one : ∀ {xs : List α} {cs : List Value}, Rows R w K xs cs → ∀ u ∈ cs, u.oneCell' = true
 | [], _, h => by subst h; simp
 | x :: xs, _, ⟨c, r, e, hc, hr⟩ => by
  subst e
  intro u hu
  rcases List.mem_append.1 hu with h | h
  ·exact R.one hc u h
  ·exact hr.one u h
theorem Rows.ext : ∀ {xs : List α} {cs : List Value}, Rows R w K xs cs → (∀ k, K k → w'.heap[k]? = w.heap[k]?) → Rows R w' K xs cs
 | [], _, h, _ => h
 | x :: xs, _, ⟨c, r, e, hc, hr⟩, hk => ⟨c, r, e, R.ext hc hk, hr.ext hk⟩
theorem Rows.mono : ∀ {xs : List α} {cs : List Value}, Rows R w K xs cs → (∀ k, K k → K' k) → Rows R w K' xs cs
 | [], _, h, _ => h
 | x :: xs, _, ⟨c, r, e, hc, hr⟩, hk => ⟨c, r, e, R.mono hc hk, hr.mono hk⟩
theorem Rows.append : ∀ {xs ys : List α} {cs ds : List Value}, Rows R w K xs cs → Rows R w K ys ds → Rows R w K (xs ++ ys) (cs ++ ds)
 | [], _, _, _, h, h' => by subst h; exact h'
 | x :: xs, ys, _, ds, ⟨c, r, e, hc, hr⟩, h' => ⟨c, r ++ ds, by rw [e, List.append_assoc], hc, hr.append h'⟩
theorem Rows.single {x : α} {c : List Value} (h : R.rel w K x c) : Rows R w K [x] c := ⟨c, [], by simp, h, rfl⟩
theorem Rows.get : ∀ {xs : List α} {cs : List Value}, Rows R w K xs cs → ∀ i (hi : i < xs.length), ∃ c, R.rel w K (xs[i]'hi) c ∧ ∀ j v, c[j]? = some v → cs[i * R.size + j]? = some v
 | [], _, _, i, hi => by simp at hi
 | x :: xs, _, ⟨c, r, e, hc, hr⟩, 0, _ => ⟨c, hc, fun j v hv => by
   subst e
   have hj := (List.getElem?_eq_some_iff.1 hv).1
   rw [Nat.zero_mul, Nat.zero_add, List.getElem?_append_left hj]; exact hv⟩
 | x :: xs, _, ⟨c, r, e, hc, hr⟩, i + 1, hi => by
  obtain ⟨d, hd, h⟩ := hr.get i (by simpa using hi)
  refine ⟨d, hd, fun j v hv => ?_⟩
  subst e
  have hl := R.len hc
  rw [List.getElem?_append_right (by rw [hl, Nat.add_mul]; omega), hl]
  have := h j v hv
  rwa [show (i + 1) * R.size + j - R.size = i * R.size + j by rw [Nat.add_mul]; omega]
theorem Rows.take : ∀ {xs : List α} {cs : List Value} (k : Nat), Rows R w K xs cs → Rows R w K (xs.take k) (cs.take (k * R.size))
 | _, _, 0, _ => by simp [Rows]
 | [], _, k + 1, h => by subst h; simp [Rows]
 | x :: xs, _, k + 1, ⟨c, r, e, hc, hr⟩ => by
  refine ⟨c, r.take (k * R.size), ?_, hc, hr.take k⟩
  subst e
  have hl := R.len hc
  rw [List.take_append, hl, List.take_of_length_le (by rw [hl, Nat.add_mul]; omega)]
  congr 2
  rw [Nat.add_mul]; omega
theorem Rows.drop : ∀ {xs : List α} {cs : List Value} (k : Nat), Rows R w K xs cs → Rows R w K (xs.drop k) (cs.drop (k * R.size))
 | _, _, 0, h => by simpa using h
 | [], _, k + 1, h => by subst h; simp [Rows]
 | x :: xs, _, k + 1, ⟨c, r, e, hc, hr⟩ => by
  subst e
  have hl := R.len hc
  have h0 : c.drop ((k + 1) * R.size) = [] := List.drop_eq_nil_of_le (by rw [hl, Nat.add_mul]; omega)
  rw [List.drop_succ_cons, List.drop_append, hl, h0, List.nil_append]
  have := hr.drop k
  rwa [show (k + 1) * R.size - R.size = k * R.size by rw [Nat.add_mul]; omega]
end
/-! ### The kinds -/
def Rep.cell {α : Type} (f : α → Value) (h : ∀ x, (f x).oneCell' = true) : Rep α where
 size := 1
 rel := fun _ _ x cs => cs = [f x]
 len := fun e => by rw [e]; rfl
 one := fun e u hu => by rw [e] at hu; simp at hu; rw [hu]; exact h _
 ext := fun e _ => e
 mono := fun e _ => e
def Rep.u8 : Rep UInt8 := .cell bv fun _ => rfl
def Rep.i64 : Rep Int := .cell (fun x => .int .i64 x) fun _ => rfl
def strV (s : List UInt8) : Value := .string (str s)
def Rep.str : Rep (List UInt8) := .cell strV fun _ => rfl
def Rep.pair {α β : Type} (R : Rep α) (S : Rep β) : Rep (α × β) where
 size := R.size + S.size
 rel := fun w K x cs => ∃ c d, cs = c ++ d ∧ R.rel w K x.1 c ∧ S.rel w K x.2 d
 len := fun ⟨c, d, e, hc, hd⟩ => by rw [e, List.length_append, R.len hc, S.len hd]
 one := fun ⟨c, d, e, hc, hd⟩ u hu => by
  rw [e] at hu
  rcases List.mem_append.1 hu with h | h
  ·exact R.one hc u h
  ·exact S.one hd u h
 ext := fun ⟨c, d, e, hc, hd⟩ hk => ⟨c, d, e, R.ext hc hk, S.ext hd hk⟩
 mono := fun ⟨c, d, e, hc, hd⟩ hk => ⟨c, d, e, R.mono hc hk, S.mono hd hk⟩
def Rep.of {α β : Type} (R : Rep α) (f : β → α) : Rep β where
 size := R.size
 rel := fun w K x cs => R.rel w K (f x) cs
 len := R.len
 one := R.one
 ext := R.ext
 mono := R.mono
def Rep.slice {α : Type} (R : Rep α) : Rep (List α) where
 size := 1
 rel := fun w K xs cs => ∃ A c ds, cs = [.slice A xs.length c] ∧ xs.length ≤ c ∧ c ≤ 9223372036854775807 ∧ Rows R w K xs ds ∧ RK w K A ds
 len := fun ⟨_, _, _, e, _⟩ => by rw [e]; rfl
 one := fun ⟨_, _, _, e, _⟩ u hu => by rw [e] at hu; simp at hu; rw [hu]; rfl
 ext := fun ⟨A, c, ds, e, hc, hm, hr, hk⟩ h => ⟨A, c, ds, e, hc, hm, hr.ext h, hk.ext h⟩
 mono := fun ⟨A, c, ds, e, hc, hm, hr, hk⟩ h => ⟨A, c, ds, e, hc, hm, hr.mono h, hk.mono h⟩
theorem rows_u8 {w : World} {K : Nat → Prop} : ∀ (bs : List UInt8), Rows Rep.u8 w K bs (bvs bs)
 | [] => rfl
 | b :: bs => ⟨[bv b], bvs bs, rfl, rfl, rows_u8 bs⟩
theorem rows_u8_eq {w : World} {K : Nat → Prop} : ∀ {bs : List UInt8} {cs : List Value}, Rows Rep.u8 w K bs cs → cs = bvs bs
 | [], _, h => h
 | b :: bs, _, ⟨c, r, e, hc, hr⟩ => by rw [e, show c = [bv b] from hc, rows_u8_eq hr]; rfl
/-! ### Slices that are read, and slices that are owned -/
def SlR {α : Type} (R : Rep α) (w : World) (K : Nat → Prop) (A : Option Addr) (n c : Nat) (xs : List α) : Prop :=
 n = xs.length ∧ n ≤ c ∧ c ≤ 9223372036854775807 ∧ ∃ cs, Rows R w K xs cs ∧ RK w K A cs
def Others (w : World) (v : Value) (k : Nat) : Prop := k < w.heap.size ∧ v.ownBlock ≠ some k
def OwnR {α : Type} (R : Rep α) (e : TypeId) (w : World) (base : Nat) (v : Value) (xs : List α) : Prop :=
 ∃ cs, w.ownsRow base e R.size v xs.length cs ∧ Rows R w (Others w v) xs cs
section
variable {α : Type} {R : Rep α} {e : TypeId} {w w' : World} {base : Nat} {v : Value} {xs : List α}
theorem OwnR.read (h : OwnR R e w base v xs) : ∃ A c, v = .slice A xs.length c ∧ SlR R w (· < w.heap.size) A xs.length c xs := by
 obtain ⟨cs, ho, hr⟩ := h
 obtain ⟨A, c, e, hc, hv⟩ := RV.own ho
 have hm : c ≤ 9223372036854775807 := by
  rcases ho.2 with ⟨h1, h2⟩ | ⟨g, cap, cur, h1, _, _, _, hm, _⟩
  ·rw [h1] at e; simp only [Value.slice.injEq] at e; omega
  ·rw [h1] at e; simp only [Value.slice.injEq] at e; simp only [maxLen] at hm; omega
 exact ⟨A, c, e, rfl, hc, hm, cs, hr.mono (fun k hk => hk.1), RK.of_rv hv fun b o _ h => h⟩
theorem OwnR.base' {base' : Nat} (h : OwnR R e w base v xs) (hb : base' ≤ base) : OwnR R e w base' v xs := let ⟨cs, ho, hr⟩ := h; ⟨cs, ownsRow_base ho hb, hr⟩
theorem SlR.ext {K : Nat → Prop} {A : Option Addr} {n c : Nat} (h : SlR R w K A n c xs) (hk : ∀ k, K k → w'.heap[k]? = w.heap[k]?) : SlR R w' K A n c xs :=
 let ⟨h1, h2, h3, cs, hr, hv⟩ := h; ⟨h1, h2, h3, cs, hr.ext hk, hv.ext hk⟩
theorem SlR.mono {K K' : Nat → Prop} {A : Option Addr} {n c : Nat} (h : SlR R w K A n c xs) (hk : ∀ k, K k → K' k) : SlR R w K' A n c xs :=
 let ⟨h1, h2, h3, cs, hr, hv⟩ := h; ⟨h1, h2, h3, cs, hr.mono hk, hv.mono hk⟩
theorem SlR.grow {A : Option Addr} {n c : Nat} (h : SlR R w (· < w.heap.size) A n c xs) (hE : Ext w w') : SlR R w' (· < w'.heap.size) A n c xs :=
 (h.ext fun k hk => hE.block k hk).mono fun k hk => Nat.lt_of_lt_of_le hk hE.size
theorem SlR.get {K : Nat → Prop} {A : Option Addr} {n c : Nat} (h : SlR R w K A n c xs) (hs : 0 < R.size) (i : Nat) (hi : i < xs.length) :
  ∃ b o d, A = some ⟨b, o, none⟩ ∧ K b ∧ R.rel w K (xs[i]'hi) d ∧ ∀ j u, d[j]? = some u → w.cell? ⟨b, o + (i * R.size + j), none⟩ = some u := by
 obtain ⟨h1, h2, -, cs, hr, hv⟩ := h
 obtain ⟨d, hd, hg⟩ := hr.get i hi
 rcases hv with rfl | ⟨b, o, e, kb, hv⟩
 ·exfalso
  have hl := R.len hd
  have := hg 0 (d[0]'(by omega)) (by simp [show 0 < d.length by omega])
  simp at this
 ·exact ⟨b, o, d, e, kb, hd, fun j u hu => hv _ u (hg j u hu)⟩
end
end Go.Proofs.YtakebdeldndaaaaGreatDoor
/- Strings: an index, a part, their sums; rows of strings that are read. -/
namespace Go.Proofs.YtakebdeldndaaaaGreatDoor
open Go Go.RowKit
set_option linter.unusedSimpArgs false
set_option linter.unusedVariables false
theorem cell_later {w w' : World} {p : Addr} {v : Value} (h : Ext w w') (hc : w.cell? p = some v) : w'.cell? p = some v := (h.cell (World.block_lt_of_cell? w p hc)).trans hc
theorem str_index (nm : List UInt8) (k : Nat) (hk : k < nm.length) (t : TypeId) (w : World) (ht : Tryz.prog.underlying t = some .string) : (Instr.index t (.string (str nm)) (.int .i64 (k : Int))).run Tryz.prog w = .ok (.int .u8 ((nm[k]'hk).toNat : Int)) w := by
 rw [run_index_string w t (str nm) .i64 (k : Int) ht, dif_pos ⟨by omega, by rw [str_size]; omega⟩]
 rfl
theorem str_extract (s : List UInt8) (i j : Nat) : (str s).extract i j = str ((s.take j).drop i) := by
 apply ByteArray.ext
 unfold str
 rw [ByteArray.data_extract]
 simp only
 rw [List.extract_toArray, List.extract_eq_take_drop, List.drop_take]
theorem str_part (s : List UInt8) (i j : Nat) (hi : i ≤ j) (hj : j ≤ s.length) (w : World) : (Instr.slice 9 (.string (str s)) (some (.int .i64 (i : Int))) (some (.int .i64 (j : Int))) none).run Tryz.prog w = .ok (.string (str ((s.take j).drop i))) w := by
 have := run_slice_string (P := Tryz.prog) w 9 (str s) .i64 .i64 (i : Int) (j : Int) Tryz.underlying9 (by omega) (by omega) (by rw [str_size]; omega)
 rw [this]
 simp only [Int.toNat_natCast, str_extract]
theorem str_from (s : List UInt8) (i : Nat) (hi : i ≤ s.length) (w : World) : (Instr.slice 9 (.string (str s)) (some (.int .i64 (i : Int))) none none).run Tryz.prog w = .ok (.string (str (s.drop i))) w := by
 have := run_slice_string_l (P := Tryz.prog) w 9 (str s) Tryz.underlying9 .i64 (i : Int) (by omega) (by rw [str_size]; omega)
 rw [this]
 simp only [Int.toNat_natCast, str_size, str_extract, List.take_length]
theorem str_upto (s : List UInt8) (j : Nat) (hj : j ≤ s.length) (w : World) : (Instr.slice 9 (.string (str s)) none (some (.int .i64 (j : Int))) none).run Tryz.prog w = .ok (.string (str (s.take j))) w := by
 have := run_slice_string_h (P := Tryz.prog) w 9 (str s) Tryz.underlying9 .i64 (j : Int) (by omega) (by rw [str_size]; omega)
 rw [this]
 simp only [Int.toNat_natCast, str_extract, List.drop_zero]
theorem len_str (s : List UInt8) (ty : TypeId) (w : World) : (Builtin.len_ #[9] ty #[.string (str s)]).run Tryz.prog w = .ok (.int .i64 (s.length : Int)) w := by
 have h := str_size s
 go_simp
theorem strs_at {w : World} {K : Nat → Prop} {A : Option Addr} {n c : Nat} {xs : List (List UInt8)} (h : SlR Rep.str w K A n c xs) (i : Nat) (hi : i < xs.length) :
  ∃ b o, A = some ⟨b, o, none⟩ ∧ K b ∧ w.cell? ⟨b, o + i, none⟩ = some (.string (str (xs[i]'hi))) := by
 obtain ⟨b, o, d, e, hk, hd, hg⟩ := h.get (by decide) i hi
 refine ⟨b, o, e, hk, ?_⟩
 have e' : d = [strV (xs[i]'hi)] := hd
 subst e'
 have := hg 0 _ rfl
 simpa [show Rep.str.size = 1 from rfl, strV] using this
theorem rows_strs {w : World} {K : Nat → Prop} : ∀ (l : List (List UInt8)), Rows Rep.str w K l (l.map strV)
 | [] => rfl
 | s :: l => ⟨[strV s], l.map strV, rfl, rfl, rows_strs l⟩
end Go.Proofs.YtakebdeldndaaaaGreatDoor
/- What a row's form says of an argument, read as a kind of XRep: slices of anything, structs, strings. -/
namespace Go.Proofs.YtakebdeldndaaaaGreatDoor
open Go Go.RowKit Go.ChangeShapes Go.WideShapes Go.ChangeAt
set_option maxRecDepth 100000
set_option linter.unusedSimpArgs false
set_option linter.unusedVariables false
def Opens {α : Type} (R : Rep α) (t : TypeId) : Prop :=
 ∀ (H : Type) (enc : TypeId × Value → H) (W : World) (fuel : Nat) (cs : List Value) (x : DataW H × List MemPlace), DataW.trod enc Tryz.prog W 0 (fun _ => true) true fuel t cs = some x → ∃ a, R.rel W (· < W.heap.size) a cs
theorem addr_add (a : Addr) (i j : Nat) : (a.add i).add j = a.add (i + j) := by
 unfold Addr.add
 by_cases hi : i = 0
 ·subst hi; simp
 ·by_cases hj : j = 0
  ·subst hj; simp [hi]
  ·simp [hi, hj, Nat.add_assoc]
theorem rows_read {α : Type} {R : Rep α} {W : World} {a : Addr} {K : Nat → Prop} : ∀ (n : Nat) (h : ∀ i, i < n → ∃ x ds, W.cells? 0 (a.add (i * R.size)) R.size = some ds ∧ R.rel W K x ds),
  ∃ xs cs, xs.length = n ∧ Rows R W K xs cs ∧ ∀ j, j < n * R.size → W.cell? (a.add j) = cs[j]?
 | 0, _ => ⟨[], [], rfl, rfl, by simp⟩
 | n + 1, h => by
  obtain ⟨xs, cs, hl, hr, hc⟩ := rows_read n fun i hi => h i (by omega)
  obtain ⟨x, ds, hd, hx⟩ := h n (by omega)
  refine ⟨xs ++ [x], cs ++ ds, by simp [hl], hr.append (Rows.single hx), fun j hj => ?_⟩
  have hcl : cs.length = n * R.size := by rw [hr.len, hl]
  by_cases hjn : j < n * R.size
  ·rw [List.getElem?_append_left (by omega)]; exact hc j hjn
  ·rw [List.getElem?_append_right (by omega), hcl]
   have hs : (n + 1) * R.size = n * R.size + R.size := by rw [Nat.add_mul, Nat.one_mul]
   have := (World.cells?_some hd).2.2 (j - n * R.size) (by omega)
   rw [addr_add, show n * R.size + (j - n * R.size) = j by omega] at this
   exact this
theorem opens_slice {α : Type} {R : Rep α} {t e : TypeId} (ht : Tryz.prog.underlying t = some (.slice e)) (hc : Tryz.prog.cellsOf e = R.size) (ho : Opens R e) : Opens (Rep.slice R) t := by
 intro H enc W fuel cs x h
 rcases DataW.trod_slice ht h with ⟨rfl, -⟩ | ⟨a, len, cap, elems, rest, n, -, rfl, -, -, hle, hm, hel, hread, -⟩
 ·exact ⟨[], none, 0, [], rfl, Nat.le_refl _, by omega, rfl, .inl rfl⟩
 ·obtain ⟨xs, ds, hl, hr, hcell⟩ := rows_read (R := R) (W := W) (a := a) (K := (· < W.heap.size)) len fun i hi => by
   have h1 := hread i hi
   rw [List.getElem?_eq_getElem (by omega), hc] at h1
   obtain ⟨ds, hd, hx⟩ := Option.bind_eq_some_iff.1 h1
   obtain ⟨x, hx⟩ := ho H enc W _ _ _ hx
   exact ⟨x, ds, hd, hx⟩
  refine ⟨xs, some a, cap, ds, by rw [hl], by omega, by simpa [maxLen] using hm, hr, ?_⟩
  have hdl : ds.length = len * R.size := by rw [hr.len, hl]
  by_cases h0 : ds = []
  ·exact .inl h0
  ·obtain ⟨b, off, spot⟩ := a
   have hpos : 0 < ds.length := List.length_pos_iff.2 h0
   have hc0 := hcell 0 (by omega)
   rw [List.getElem?_eq_getElem hpos] at hc0
   have hspot : spot = none := by simpa [Addr.add] using World.cell?_spot hc0
   subst hspot
   refine .inr ⟨b, off, rfl, ?_, fun j v hv => ?_⟩
   ·have := World.block_lt_of_cell? W _ hc0
    simpa [Addr.add] using this
   ·have hj : j < ds.length := (List.getElem?_eq_some_iff.1 hv).1
    have := hcell j (by omega)
    rw [Addr.add_lit] at this
    rw [this]; exact hv
theorem opens_u8 : Opens Rep.u8 5 := by
 intro H enc W fuel cs x h
 obtain ⟨n, rfl, -, hw⟩ := DataW.trod_int Tryz.underlying5 h
 obtain ⟨b, rfl⟩ := byte_of_wf hw
 exact ⟨b, rfl⟩
theorem opens_bytes : Opens (Rep.slice Rep.u8) 23 := opens_slice Tryz.underlying23 u8_cells opens_u8
theorem open_slR {α : Type} {R : Rep α} {t e : TypeId} (ht : Tryz.prog.underlying t = some (.slice e)) (hc : Tryz.prog.cellsOf e = R.size) (ho : Opens R e)
  {H : Type} {enc : TypeId × Value → H} {W : World} {a : Option Addr} {len cap : Nat} {d : DataW H} {p : List MemPlace}
  (h : DataW.Trod enc Tryz.prog W 0 (fun _ => true) true t (.slice a len cap) d p) : ∃ xs, SlR R W (· < W.heap.size) a len cap xs := by
 obtain ⟨fuel, hf⟩ := h
 obtain ⟨xs, A, c, ds, e, h1, h2, h3, h4⟩ := opens_slice ht hc ho H enc W fuel _ _ hf
 simp [Value.cells] at e
 obtain ⟨rfl, rfl, rfl⟩ := e
 exact ⟨xs, rfl, h1, h2, ds, h3, h4⟩
end Go.Proofs.YtakebdeldndaaaaGreatDoor
/- A slice of one's own whose elements lead to blocks of which K holds, all of them older than the slice's own. -/
namespace Go.Proofs.YtakebdeldndaaaaGreatDoor
open Go Go.RowKit
set_option linter.unusedVariables false
def OwnK {α : Type} (R : Rep α) (e : TypeId) (K : Nat → Prop) (w : World) (base : Nat) (v : Value) (xs : List α) : Prop :=
 ∃ cs, w.ownsRow base e R.size v xs.length cs ∧ Rows R w K xs cs
section
variable {α : Type} {R : Rep α} {e : TypeId} {K K' : Nat → Prop} {w w' w0 : World} {base : Nat} {v v' : Value} {xs : List α}
theorem OwnK.ext (h : OwnK R e K w base v xs) (hE : Ext w w') (hK : ∀ k, K k → k < w.heap.size) : OwnK R e K w' base v xs := by
 obtain ⟨cs, ho, hr⟩ := h
 exact ⟨cs, World.ownsRow.kept (row := none) ho ⟨hE.os, hE.tape, hE.output, hE.size, fun i hi _ => hE.block i hi⟩ (by cases v.ownBlock <;> simp), hr.ext fun k hk => hE.block k (hK k hk)⟩
theorem OwnK.mono (h : OwnK R e K w base v xs) (hK : ∀ k, K k → K' k) : OwnK R e K' w base v xs := let ⟨cs, ho, hr⟩ := h; ⟨cs, ho, hr.mono hK⟩
theorem OwnK.base' {base' : Nat} (h : OwnK R e K w base v xs) (hb : base' ≤ base) : OwnK R e K w base' v xs := let ⟨cs, ho, hr⟩ := h; ⟨cs, ownsRow_base ho hb, hr⟩
theorem OwnK.nil (w : World) (base : Nat) : OwnK R e K w base (.slice none 0 0) [] := ⟨[], World.ownsRow_nil w base e R.size, rfl⟩
theorem OwnK.empty (w : World) (base : Nat) (hb : base ≤ w.heap.size) : OwnK R e K (w.alloc (.cells #[] e)) base (.slice (some ⟨w.heap.size, 0, none⟩) 0 0) [] :=
 ⟨[], ⟨by simp, .inr ⟨w.heap.size, 0, #[], rfl, hb, heap_alloc_last w _, Nat.le_refl _, by simp [maxLen], by simp, by simp⟩⟩, rfl⟩
theorem OwnK.read (h : OwnK R e K w base v xs) : ∃ A c cs, v = .slice A xs.length c ∧ xs.length ≤ c ∧ c ≤ 9223372036854775807 ∧ Rows R w K xs cs ∧ RV w A cs := by
 obtain ⟨cs, ho, hr⟩ := h
 obtain ⟨A, c, e, hc, hv⟩ := RV.own ho
 have hm : c ≤ 9223372036854775807 := by
  rcases ho.2 with ⟨h1, h2⟩ | ⟨g, cap, cur, h1, _, _, _, hm, _⟩
  ·rw [h1] at e; simp only [Value.slice.injEq] at e; omega
  ·rw [h1] at e; simp only [Value.slice.injEq] at e; simp only [maxLen] at hm; omega
 exact ⟨A, c, cs, e, hc, hm, hr, hv⟩
theorem OwnK.at_ (h : OwnK R e K w base v xs) (h0 : 0 < xs.length) : ∃ g c, v = .slice (some ⟨g, 0, none⟩) xs.length c ∧ v.ownBlock = some g ∧ base ≤ g ∧ g < w.heap.size ∧ xs.length ≤ c ∧ c ≤ 9223372036854775807 ∧
  ∀ i (hi : i < xs.length), ∃ d, R.rel w K (xs[i]'hi) d ∧ ∀ j u, d[j]? = some u → w.cell? ⟨g, i * R.size + j, none⟩ = some u := by
 obtain ⟨cs, ho, hr⟩ := h
 rcases ho.2 with ⟨h1, h2⟩ | ⟨g, cap, cur, rfl, hb, hg, hn, hm, hs, ht⟩
 ·exfalso; omega
 ·refine ⟨g, cap, rfl, rfl, hb, (Array.getElem?_eq_some_iff.1 hg).1, hn, by simpa [maxLen] using hm, fun i hi => ?_⟩
  obtain ⟨d, hd, hget⟩ := hr.get i hi
  refine ⟨d, hd, fun j u hu => ?_⟩
  have := World.ownsRow.cells ho (g := g) rfl _ u (hget j u hu)
  rwa [show (⟨g, 0, none⟩ : Addr).add (i * R.size + j) = ⟨g, i * R.size + j, none⟩ by unfold Addr.add; split <;> simp_all] at this
theorem OwnK.kept {row : Option Nat} (h : OwnK R e K w base v xs) (hg : w.grownBy w' row) (hne : v.ownBlock = none ∨ v.ownBlock ≠ row) (hK : ∀ k, K k → k < w.heap.size ∧ row ≠ some k) : OwnK R e K w' base v xs := by
 obtain ⟨cs, ho, hr⟩ := h
 exact ⟨cs, World.ownsRow.kept ho hg hne, hr.ext fun k hk => hg.block k (hK k hk).1 (fun e => (hK k hk).2 e.symm)⟩
theorem wpList_appK {P : Program} {ops : Array Oper} {rest : List Oper} {o : Oper} {a : Act} {Q : Exit → Act → World → Prop} {t : TypeId} {z : Value} {bytes : Nat} (S : SlInfo P t e z R.size bytes)
  (hgd : o.guard = none) (s x : Operand) (ho : o.op = .call { callee := .builtin .append, args := #[s, x], argTypes := #[t, t] })
  (hs : a.eval s = v) (hown : Hid (OwnK R e K w base v xs)) (hK : Hid (∀ k, K k → k < base)) (hB : Hid (Below base w0 w)) (hbase : base ≤ w.heap.size)
  (A : Option Addr) (m c : Nat) (news : List α) (hx : a.eval x = .slice A m c) (hm : Hid (m = news.length)) (hr : Hid (∃ cs, Rows R w K news cs ∧ RV w A cs))
  (hbytes : (xs.length + m) * bytes ≤ 140737488355328) (hmax : xs.length + m ≤ 140737488355328)
  (h : ∀ v' w', Hid (OwnK R e K w' base v' (xs ++ news)) → Hid (Below base w0 w') → Hid (Grew w0 w w' base v v') → wpList P ops Q rest (a.put o.dst v') w') :
  wpList P ops Q (o :: rest) a w := by
 obtain rfl : m = news.length := hm
 obtain ⟨cs, hr, hv⟩ := hr
 obtain ⟨ds, hown, hrow⟩ := hown
 refine wpList_app (w0 := w0) S hgd s x ho base v xs.length ds hs hown hB hbase A news.length c cs hx hr.len hv hr.one hbytes hmax ?_
 intro v' w' h1 h2 _
 refine h v' w' ⟨ds ++ cs, by rw [List.length_append]; exact h1, ?_⟩ h2.below h2
 have hall := hrow.append hr
 have hlt := fun k hk => (World.ownsRow.lt hown k hk).1
 refine hall.ext fun k hk => h2.grown.block k (Nat.lt_of_lt_of_le (hK k hk) hbase) (fun e => ?_)
 have := hlt k e.symm
 have := hK k hk
 omega
end
end Go.Proofs.YtakebdeldndaaaaGreatDoor
/- append onto a slice of one's own that is full, at the run's level: what was there is left. -/
namespace Go.Proofs.YtakebdeldndaaaaGreatDoor
open Go Go.RowKit
set_option linter.unusedVariables false
section
variable {α : Type} {R : Rep α} {e : TypeId} {K : Nat → Prop} {w : World} {base : Nat} {xs : List α}
theorem run_app_fullK {P : Program} {t : TypeId} {z : Value} {bytes : Nat} (S : SlInfo P t e z R.size bytes) (ty : TypeId) (g n : Nat) (hn : n = xs.length) (hown : OwnK R e K w base (.slice (some ⟨g, 0, none⟩) n n) xs) (hbase : base ≤ w.heap.size) (hK : ∀ k, K k → k < w.heap.size)
  (A : Option Addr) (c m : Nat) (news : List α) (hm : m = news.length) (hr : ∃ cs, Rows R w K news cs ∧ RV w A cs) (hmax : n + m ≤ 1000000) (hbytes : bytes ≤ 1000) :
  ∃ v' w', (Builtin.append_ #[t, t] ty #[.slice (some ⟨g, 0, none⟩) n n, .slice A m c]).run P w = .ok v' w' ∧ OwnK R e K w' base v' (xs ++ news) ∧ Ext w w' := by
 subst hn; subst hm
 obtain ⟨i, hi, hii⟩ := Option.map_eq_some_iff.1 S.hi
 simp only [Prod.mk.injEq] at hii
 obtain ⟨hz0, hz1, hz2⟩ := hii
 obtain ⟨cs, hrow, hrd⟩ := hr
 obtain ⟨ds, hds, hdrow⟩ := hown
 by_cases h0 : news = []
 ·subst h0
  have hrun : (Builtin.append_ #[t, t] ty #[.slice (some ⟨g, 0, none⟩) xs.length xs.length, .slice A 0 c]).run P w = .ok (.slice (some ⟨g, 0, none⟩) xs.length xs.length) w := by
   cases A with
   | none => exact run_append_owned_nil base t ty e i R.size S.ht hi _ xs.length ds hds c
   | some ad => simp [Builtin.append_, run_underlying S.ht, sizeOf, typeInfo, hi, Builtin.lenOf, Builtin.firstCells, loadCells, loadCellsFrom, storeCells]
  exact ⟨_, w, hrun, by rw [List.append_nil]; exact ⟨ds, hds, hdrow⟩, Below.refl _ _⟩
 ·have hpos : 0 < news.length := List.length_pos_iff.2 h0
  have hcl : cs.length = news.length * R.size := hrow.len
  have hcne : cs ≠ [] := by
   intro e; rw [e] at hcl
   have := Nat.mul_pos hpos S.hs
   simp at hcl; omega
  obtain ⟨b, off, rfl, hrd2⟩ : ∃ b o, A = some ⟨b, o, none⟩ ∧ ∀ j v, cs[j]? = some v → w.cell? ⟨b, o + j, none⟩ = some v := by
   rcases hrd with h | h
   ·exact absurd h hcne
   ·exact h
  have holds : ∀ j u, ds[j]? = some u → w.cell? ((⟨g, 0, none⟩ : Addr).add j) = some u := World.ownsRow.cells hds (g := g) rfl
  have hfit : Builtin.nextslicecap (xs.length + news.length) xs.length * i.bytes ≤ 281474976710656 := growslice_fits (by omega) (by rw [hz2]; exact Nat.le_trans (Nat.mul_le_mul hmax hbytes) (by omega))
  have hr' := run_append_grow (P := P) w t ty e i z S.ht hi hz0 ⟨g, 0, none⟩ xs.length xs.length ds (by rw [hz1]; exact hds.1) holds ⟨b, off, none⟩ news.length c cs (by rw [hz1]; exact hcl) (fun j u hu => by rw [Addr.add_lit]; exact hrd2 j u hu) (by omega) (by omega) hfit
  have hE : Ext w (w.drew.alloc (.cells (ds.toArray ++ cs.toArray ++ Builtin.zeroCells z.cells (grownCap w (xs.length + news.length) xs.length e - (xs.length + news.length))) e)) := ⟨rfl, rfl, rfl, by simp, fun k hk => Go.heap_alloc_old w.drew _ hk⟩
  refine ⟨_, _, hr', ⟨ds ++ cs, ⟨?_, .inr ⟨w.heap.size, _, _, by rw [List.length_append], hbase, heap_alloc_last w.drew _, ?_, grownCap_le_maxLen w _ _ _ (by simp only [maxLen]; omega), ?_, ?_⟩⟩, ?_⟩, hE⟩
  ·rw [List.length_append, List.length_append, hds.1, hcl, Nat.add_mul]
  ·rw [List.length_append]; exact grownCap_ge w _ _ _
  ·have hge := grownCap_ge w (xs.length + news.length) xs.length e
   have hd1 : ds.length = xs.length * R.size := hds.1
   have hzs := S.hz
   have hzc : ∀ n, (Builtin.zeroCells z.cells n).size = n * R.size := fun n => by rw [size_zeroCells, hzs]
   simp only [Array.size_append, List.size_toArray, hzc]
   rw [hd1, hcl, ← Nat.add_mul, ← Nat.add_mul]
   congr 1
   omega
  ·simp only [Array.toList_append, List.append_assoc]
   rw [← List.append_assoc]
   have : (xs ++ news).length * R.size = (ds ++ cs).length := by rw [List.length_append, List.length_append, hds.1, hcl, Nat.add_mul]
   rw [this]
   exact List.take_left
  ·exact (hdrow.append hrow).ext fun k hk => hE.block k (hK k hk)
theorem run_appK {P : Program} {t : TypeId} {z : Value} {bytes : Nat} (S : SlInfo P t e z R.size bytes) (ty : TypeId) {v : Value} (hown : OwnK R e K w base v xs) (hbase : base ≤ w.heap.size) (hK : ∀ k, K k → k < base)
  (A : Option Addr) (c m : Nat) (news : List α) (hm : m = news.length) (hr : ∃ cs, Rows R w K news cs ∧ RV w A cs) (hmax : xs.length + m ≤ 1000000) (hbytes : bytes ≤ 1000) :
  ∃ v' w', (Builtin.append_ #[t, t] ty #[v, .slice A m c]).run P w = .ok v' w' ∧ OwnK R e K w' base v' (xs ++ news) ∧ w.grownBy w' v.ownBlock ∧ (v'.ownBlock = v.ownBlock ∨ v'.ownBlock = some w.heap.size) := by
 subst hm
 obtain ⟨i, hi, hii⟩ := Option.map_eq_some_iff.1 S.hi
 simp only [Prod.mk.injEq] at hii
 obtain ⟨hz0, hz1, hz2⟩ := hii
 obtain ⟨cs, hrow, hrd⟩ := hr
 obtain ⟨ds, hds, hdrow⟩ := hown
 cases A with
 | none =>
  have hc : cs = [] := by
   rcases hrd with h | ⟨_, _, h, _⟩
   ·exact h
   ·cases h
  have hn : news = [] := by
   have h1 := hrow.len
   rw [hc] at h1
   have h2 : 0 = news.length * R.size := by simpa using h1
   rcases Nat.mul_eq_zero.1 h2.symm with h | h
   ·exact List.eq_nil_of_length_eq_zero h
   ·have := S.hs; omega
  subst hn
  exact ⟨v, w, run_append_owned_nil base t ty e i R.size S.ht hi _ xs.length ds hds c, by rw [List.append_nil]; exact ⟨ds, hds, hdrow⟩, ⟨rfl, rfl, rfl, Nat.le_refl _, fun _ _ _ => rfl⟩, .inl rfl⟩
 | some ad =>
  have hb2 : (xs.length + news.length) * bytes ≤ 140737488355328 := Nat.le_trans (Nat.mul_le_mul hmax hbytes) (by omega)
  obtain ⟨v', w', hr, h2, h3, h4, h5⟩ := run_append_own_at (P := P) w base t ty e i z R.size bytes S.ht hi hz0 hz1 hz2 S.hz S.hs v xs.length ds hds ad news.length c cs hrow.len (by
   rcases hrd with rfl | ⟨b, o', e', h⟩
   ·intro j u hu; simp at hu
   ·simp only [Option.some.injEq] at e'
    subst e'
    intro j u hu
    have := h j u hu
    rwa [Addr.add_lit]) hrow.one (by simp only [maxLen]; omega) hb2 hbase
  have hlt := fun k hk => (World.ownsRow.lt hds k hk).1
  refine ⟨v', w', hr, ⟨ds ++ cs, by rw [List.length_append]; exact h2, (hdrow.append hrow).ext fun k hk => h3.block k (Nat.lt_of_lt_of_le (hK k hk) hbase) (fun e => ?_)⟩, h3, h5⟩
  have := hlt k e.symm
  have := hK k hk
  omega
end
end Go.Proofs.YtakebdeldndaaaaGreatDoor
/- A slice of one's own whose elements lead to other blocks, none of which is in S. -/
namespace Go.Proofs.YtakebdeldndaaaaGreatDoor
open Go Go.RowKit
set_option linter.unusedVariables false
def OthersS (S : Nat → Prop) (w : World) (v : Value) (k : Nat) : Prop := k < w.heap.size ∧ v.ownBlock ≠ some k ∧ ¬ S k
def OwnS {α : Type} (R : Rep α) (e : TypeId) (S : Nat → Prop) (w : World) (base : Nat) (v : Value) (xs : List α) : Prop :=
 ∃ cs, w.ownsRow base e R.size v xs.length cs ∧ Rows R w (OthersS S w v) xs cs
section
variable {α : Type} {R : Rep α} {e : TypeId} {S : Nat → Prop} {w w' w0 : World} {base : Nat} {v v' : Value} {xs : List α}
theorem OwnS.ext (h : OwnS R e S w base v xs) (hE : Ext w w') : OwnS R e S w' base v xs := by
 obtain ⟨cs, ho, hr⟩ := h
 exact ⟨cs, World.ownsRow.kept (row := none) ho ⟨hE.os, hE.tape, hE.output, hE.size, fun i hi _ => hE.block i hi⟩ (by cases v.ownBlock <;> simp), (hr.ext fun k hk => hE.block k hk.1).mono fun k hk => ⟨Nat.lt_of_lt_of_le hk.1 hE.size, hk.2⟩⟩
theorem OwnS.empty (w : World) (base : Nat) (hb : base ≤ w.heap.size) : OwnS R e S (w.alloc (.cells #[] e)) base (.slice (some ⟨w.heap.size, 0, none⟩) 0 0) [] :=
 ⟨[], ⟨by simp, .inr ⟨w.heap.size, 0, #[], rfl, hb, heap_alloc_last w _, Nat.le_refl _, by simp [maxLen], by simp, by simp⟩⟩, rfl⟩
theorem OwnS.read (h : OwnS R e S w base v xs) : ∃ A c cs, v = .slice A xs.length c ∧ xs.length ≤ c ∧ c ≤ 9223372036854775807 ∧ Rows R w (fun k => k < w.heap.size ∧ ¬ S k) xs cs ∧ RV w A cs := by
 obtain ⟨cs, ho, hr⟩ := h
 obtain ⟨A, c, e, hc, hv⟩ := RV.own ho
 have hm : c ≤ 9223372036854775807 := by
  rcases ho.2 with ⟨h1, h2⟩ | ⟨g, cap, cur, h1, _, _, _, hm, _⟩
  ·rw [h1] at e; simp only [Value.slice.injEq] at e; omega
  ·rw [h1] at e; simp only [Value.slice.injEq] at e; simp only [maxLen] at hm; omega
 exact ⟨A, c, cs, e, hc, hm, hr.mono fun k hk => ⟨hk.1, hk.2.2⟩, hv⟩
theorem wpList_appS {P : Program} {ops : Array Oper} {rest : List Oper} {o : Oper} {a : Act} {Q : Exit → Act → World → Prop} {t : TypeId} {z : Value} {bytes : Nat} (I : SlInfo P t e z R.size bytes)
  (hgd : o.guard = none) (s x : Operand) (ho : o.op = .call { callee := .builtin .append, args := #[s, x], argTypes := #[t, t] })
  (hs : a.eval s = v) (hown : Hid (OwnS R e S w base v xs)) (hB : Hid (Below base w0 w)) (hbase : base ≤ w.heap.size)
  (A : Option Addr) (m c : Nat) (news : List α) (hx : a.eval x = .slice A m c) (hm : Hid (m = news.length)) (hr : Hid (∃ cs, Rows R w (OthersS S w v) news cs ∧ RV w A cs))
  (hbytes : (xs.length + m) * bytes ≤ 140737488355328) (hmax : xs.length + m ≤ 140737488355328)
  (h : ∀ v' w', Hid (OwnS R e S w' base v' (xs ++ news)) → Hid (Below base w0 w') → Hid (Grew w0 w w' base v v') → wpList P ops Q rest (a.put o.dst v') w') :
  wpList P ops Q (o :: rest) a w := by
 obtain rfl : m = news.length := hm
 obtain ⟨cs, hr, hv⟩ := hr
 obtain ⟨ds, hown, hrow⟩ := hown
 refine wpList_app (w0 := w0) I hgd s x ho base v xs.length ds hs hown hB hbase A news.length c cs hx hr.len hv hr.one hbytes hmax ?_
 intro v' w' h1 h2 _
 refine h v' w' ⟨ds ++ cs, by rw [List.length_append]; exact h1, ?_⟩ h2.below h2
 have hall := hrow.append hr
 refine (hall.ext fun k hk => h2.grown.block k hk.1 (fun e => hk.2.1 e.symm)).mono fun k hk => ⟨Nat.lt_of_lt_of_le hk.1 h2.grown.size, ?_, hk.2.2⟩
 rcases h2.at_ with e | e
 ·rw [e]; exact hk.2.1
 ·rw [e]; intro h'; have := hk.1; simp at h'; omega
end
end Go.Proofs.YtakebdeldndaaaaGreatDoor
/- A drawn region in which one operation (the move of a receiver's pointer, say) may also come behind the first of the last ones: 'x.f = append(x.f, ..)'. -/
namespace Go.Proofs.YtakebdeldndaaaaGreatDoor
open Go Go.RowKit
def oldOf (a0 : Act) (o : Oper) : Value := match o.dst with | some d => a0.tmps.getD d undef | none => undef
def allBut (R : Nat → Value → World → Prop) (v : Nat → Value) (w : World) (m : Nat) : List Oper → Nat → Prop
 | [], _ => True
 | _ :: l, i => (i ≠ m → R i (v i) w) ∧ allBut R v w m l (i + 1)
theorem allBut_mk {R : Nat → Value → World → Prop} {v : Nat → Value} {w : World} {m : Nat} : ∀ (l : List Oper) (k : Nat), (∀ i, i < l.length → k + i ≠ m → R (k + i) (v (k + i)) w) → allBut R v w m l k
 | [], _, _ => trivial
 | x :: l, k, h => ⟨fun hk => by simpa using h 0 (by simp) (by simpa using hk), allBut_mk l (k + 1) fun i hi him => by
   have := h (i + 1) (by simpa using hi) (by omega)
   rwa [show k + 1 + i = k + (i + 1) by omega]⟩
def coveredBut (l : List Oper) (p m : Nat) : Bool :=
 decide (m < p) && ((List.range p).all fun i => decide (i = m) || (l.zipIdx.any fun (o, j) => decide (i < j) && decide (j ≤ p) && !decide (j = m) && (waitsOn o).contains i)) &&
 (l.zipIdx.all fun (o, j) => !decide (p < j) || (waitsOn o).contains (j - 1)) && (l.zipIdx.all fun (o, j) => !decide (j = p + 1) || (waitsOn o).contains m)
theorem wp_region_drawn_late {P : Program} {id : Nat} {l : List Oper} {last : Oper} {tail : List Oper} {Q : Exit → Act → World → Prop} {a0 : Act} {w0 : World} (R : Nat → Value → World → Prop) (m : Nat)
  (hm : P.follows .mixedOrders = true) (hok : regionOk (l ++ last :: tail) a0.tmps.size = true) (hcov : coveredBut (l ++ last :: tail) l.length m = true)
  (stab : ∀ i v w w', R i v w → Ext w w' → R i v w')
  (steps : allSteps' P (l ++ last :: tail).toArray w0 a0 R l l 0)
  (fin : ∀ (v : Nat → Value) (w : World), Ext w0 w → allOf R v w l 0 → wpList P (l ++ last :: tail).toArray Q (last :: tail) (putAll v l 0 a0) w)
  (fin2 : ∀ (v : Nat → Value) (w : World) (om : Oper), l[m]? = some om → Ext w0 w → allBut R v w m l 0 → v m = oldOf a0 om → wpList P (l ++ last :: tail).toArray Q (last :: om :: tail) (putAll v l 0 a0) w) :
  (Code.region id (l ++ last :: tail).toArray true).wp P Q a0 w0 := by
 simp only [regionOk, Bool.and_eq_true, decide_eq_true_eq] at hok
 obtain ⟨⟨hback, hnd⟩, hsz⟩ := hok
 have hll : (l ++ last :: tail).length = l.length + 1 + tail.length := by simp; omega
 have hback' : ∀ i o, (l ++ last :: tail)[i]? = some o → ∀ j ∈ waitsOn o, j < i := by
  intro i o ho j hj
  have h1 := List.all_eq_true.1 hback (o, i) (by
   rw [List.mem_zipIdx_iff_getElem?]; exact ho)
  have h2 := List.all_eq_true.1 h1 j hj
  simpa using h2
 simp only [coveredBut, Bool.and_eq_true, decide_eq_true_eq] at hcov
 obtain ⟨⟨⟨hml, hcov1⟩, hcov2⟩, hcov3⟩ := hcov
 have hcov' : ∀ i, i < l.length → i ≠ m → ∃ j o, i < j ∧ j ≤ l.length ∧ j ≠ m ∧ (l ++ last :: tail)[j]? = some o ∧ i ∈ waitsOn o := by
  intro i hi him
  have h1 := List.all_eq_true.1 hcov1 i (by simp; exact hi)
  simp only [Bool.or_eq_true, decide_eq_true_eq] at h1
  rcases h1 with h1 | h1
  ·exact absurd h1 him
  obtain ⟨⟨o, j⟩, hmem, h2⟩ := List.any_eq_true.1 h1
  rw [List.mem_zipIdx_iff_getElem?] at hmem
  simp only [Bool.and_eq_true, decide_eq_true_eq, List.contains_iff_mem, Bool.not_eq_true', decide_eq_false_iff_not] at h2
  exact ⟨j, o, h2.1.1.1, h2.1.1.2, h2.1.2, hmem, h2.2⟩
 have hnextm : ∀ o, (l ++ last :: tail)[l.length + 1]? = some o → m ∈ waitsOn o := by
  intro o ho
  have h1 := List.all_eq_true.1 hcov3 (o, l.length + 1) (by rw [List.mem_zipIdx_iff_getElem?]; exact ho)
  simpa using h1
 have hchain : ∀ i o, (l ++ last :: tail)[i]? = some o → l.length < i → i - 1 ∈ waitsOn o := by
  intro i o ho hi
  have h1 := List.all_eq_true.1 hcov2 (o, i) (by rw [List.mem_zipIdx_iff_getElem?]; exact ho)
  simpa [hi] using h1
 have hwait : ∀ i (listed : Array Bool), i ∈ Region.ready .any (l ++ last :: tail).toArray listed ↔ (i < (l ++ last :: tail).length ∧ listed.getD i true = false ∧ ∀ o, (l ++ last :: tail)[i]? = some o → ∀ j ∈ waitsOn o, listed.getD j false = true) := by
  intro i listed
  unfold Region.ready
  simp only [List.mem_filter, List.mem_range, List.size_toArray, Bool.and_eq_true, Bool.not_eq_true']
  refine and_congr_right fun hi => and_congr_right fun _ => ?_
  simp only [List.getElem?_toArray, List.getElem?_eq_getElem hi, Option.map_some, Option.getD_some, Option.some.injEq]
  constructor
  ·intro h o ho j hj
   subst ho
   simp only [waitsOn, List.mem_map, List.mem_filter] at hj
   obtain ⟨e, ⟨he, hb⟩, rfl⟩ := hj
   have := Array.all_eq_true_iff_forall_mem.1 h e (by simpa using he)
   simpa [hb] using this
  ·intro h
   rw [Array.all_eq_true_iff_forall_mem]
   intro e he
   by_cases hb : Region.binds .any e = true
   ·have := h _ rfl e.on (by
     simp only [waitsOn, List.mem_map, List.mem_filter]
     exact ⟨e, ⟨by simpa using he, hb⟩, rfl⟩)
    simp [hb, this]
   ·simp [hb]
 have hnd1 : (l.filterMap (·.dst)).Nodup := by
  rw [List.filterMap_append] at hnd
  exact (List.nodup_append.1 hnd).1
 have main : ∀ (fuel : Nat) (listed : Array Bool) (v : Nat → Value) (w : World), listed.size = l.length + 1 + tail.length → (listed.toList.filter (· == false)).length ≤ fuel →
   (∀ k, l.length ≤ k → k < l.length + 1 + tail.length → listed.getD k true = false) → (∀ i o, listed.getD i false = true → (l ++ last :: tail)[i]? = some o → ∀ j ∈ waitsOn o, listed.getD j false = true) →
   Ext w0 w → (∀ i, listed.getD i false = true → R i (v i) w) → (∀ i o, l[i]? = some o → listed.getD i false = false → v i = oldOf a0 o) → wpAny P .any (l ++ last :: tail).toArray Q fuel listed (putAll v l 0 a0) w := by
  intro fuel
  induction fuel with
  | zero =>
   intro listed v w hl hf hlast _ _ _ _
   exfalso
   have he : listed.toList.filter (· == false) = [] := List.eq_nil_of_length_eq_zero (by omega)
   rw [List.filter_eq_nil_iff] at he
   have hil' : l.length < listed.size := by omega
   have := he listed[l.length] (by simp)
   have hlast := hlast l.length (Nat.le_refl _) (by omega)
   rw [Array.getD_eq_getD_getElem?, Array.getElem?_eq_getElem hil'] at hlast
   simp only [Option.getD_some] at hlast
   simp [hlast] at this
  | succ fuel ih =>
   intro listed v w hl hf hlast hdown hE hR hold
   have hnot : Region.ready .any (l ++ last :: tail).toArray listed ≠ [] := by
    -- the least that is not listed is ready
    intro hnil
    have all : ∀ i, i < l.length + 1 + tail.length → listed.getD i false = true := by
     intro i
     induction i using Nat.strongRecOn with
     | _ i ih2 =>
      intro hi
      by_cases hd : listed.getD i false = true
      ·exact hd
      ·exfalso
       have : i ∈ Region.ready .any (l ++ last :: tail).toArray listed := by
        rw [hwait]
        refine ⟨by omega, ?_, fun o ho j hj => ih2 j (hback' i o ho j hj) (by have := hback' i o ho j hj; omega)⟩
        simp only [Array.getD_eq_getD_getElem?] at hd ⊢
        rw [Array.getElem?_eq_getElem (by omega)] at hd ⊢
        simpa using hd
       rw [hnil] at this
       cases this
    have h1 := all l.length (by omega)
    have hlast := hlast l.length (Nat.le_refl _) (by omega)
    rw [Array.getD_eq_getD_getElem?, Array.getElem?_eq_getElem (by omega)] at h1 hlast
    simp at h1 hlast
    rw [h1] at hlast
    cases hlast
   refine ⟨fun hr => absurd hr hnot, fun i hi => ?_⟩
   obtain ⟨hil, hu, hdep⟩ := (hwait i listed).1 hi
   have ho : (l ++ last :: tail)[i]? = some (l ++ last :: tail)[i] := List.getElem?_eq_getElem hil
   by_cases hi1 : i < l.length
   ·have ho1 : l[i]? = some (l ++ last :: tail)[i] := by rw [← ho, List.getElem?_append_left hi1]
    have hst := allSteps'_get l 0 steps i _ ho1
    rw [Nat.zero_add] at hst
    have hst := hst v w hE (deps_mk _ fun j hj => hR j (hdep _ ho j hj))
    have next : ∀ x w', Ext w w' → R i x w' → wpAny P .any (l ++ last :: tail).toArray Q fuel (listed.setIfInBounds i true) ((putAll v l 0 a0).put (l ++ last :: tail)[i].dst x) w' := by
     intro x w' hE' hx
     rw [putAll_put v x l 0 i a0 _ hnd1 ho1]
     refine ih (listed.setIfInBounds i true) _ w' (by simpa using hl) ?_ ?_ ?_ (Ext.trans' hE hE') ?_ ?_
     ·have hil' : i < listed.size := by omega
      have hfalse : listed[i] = false := by
       rw [Array.getD_eq_getD_getElem?, Array.getElem?_eq_getElem hil'] at hu
       simpa using hu
      have e1 : listed.toList = listed.toList.take i ++ false :: listed.toList.drop (i + 1) := by
       rw [← hfalse]
       conv => lhs; rw [← List.take_append_drop i listed.toList]
       congr 1
       rw [List.drop_eq_getElem_cons (by simpa using hil')]
       simp
      have e2 : (listed.setIfInBounds i true).toList = listed.toList.take i ++ true :: listed.toList.drop (i + 1) := by
       rw [Array.toList_setIfInBounds, List.set_eq_take_append_cons_drop, if_pos (by simpa using hil')]
      rw [e1] at hf
      rw [e2]
      simp only [List.filter_append, List.filter_cons, List.length_append] at hf ⊢
      simp at hf ⊢
      omega
     ·intro k hk1 hk2
      rw [Array.getD_eq_getD_getElem?, Array.getElem?_setIfInBounds_ne (by omega), ← Array.getD_eq_getD_getElem?]
      exact hlast k hk1 hk2
     ·intro k o hk hko j hj
      have hset : ∀ j, listed.getD j false = true → (listed.setIfInBounds i true).getD j false = true := by
       intro j h
       rw [Array.getD_eq_getD_getElem?] at h ⊢
       rw [Array.getElem?_setIfInBounds]
       split
       ·split <;> simp_all
       ·exact h
      by_cases e : k = i
      ·subst e
       have : o = (l ++ last :: tail)[k] := by rw [ho] at hko; exact (Option.some.inj hko).symm
       subst this
       exact hset j (hdep _ ho j hj)
      ·refine hset j (hdown k o ?_ hko j hj)
       rw [Array.getD_eq_getD_getElem?, Array.getElem?_setIfInBounds_ne (Ne.symm e), ← Array.getD_eq_getD_getElem?] at hk
       exact hk
     ·intro j hj
      by_cases e : j = 0 + i
      ·rw [if_pos e]
       have : j = i := by omega
       subst this
       exact hx
      ·rw [if_neg e]
       have hne : i ≠ j := by omega
       refine stab j _ w w' (hR j ?_) hE'
       rw [Array.getD_eq_getD_getElem?, Array.getElem?_setIfInBounds_ne hne, ← Array.getD_eq_getD_getElem?] at hj
       exact hj
     ·intro j o hjo hj
      have hij : i ≠ j := by
       rintro rfl
       rw [Array.getD_eq_getD_getElem?, Array.getElem?_setIfInBounds, if_pos rfl, if_pos (by omega)] at hj
       simp at hj
      rw [Array.getD_eq_getD_getElem?, Array.getElem?_setIfInBounds_ne hij, ← Array.getD_eq_getD_getElem?] at hj
      show (if j = 0 + i then x else v j) = _
      rw [if_neg (by omega)]
      exact hold j o hjo hj
    unfold wpOp
    simp only [List.getElem?_toArray, ho]
    split
    ·rename_i hw
     rw [if_pos hw] at hst
     exact .inl (wp_post (Oper.wp_mono (K' := wpAny P .any (l ++ last :: tail).toArray Q fuel (listed.setIfInBounds i true)) (h := fun a' w' ⟨x, e, hE', hx⟩ => by rw [e]; exact next x w' hE' hx) hst))
    ·rename_i hw
     rw [if_neg hw] at hst
     exact next undef w (Below.refl _ _) hst
   ·-- the first of the last: all ahead of it are there, none of the others
    have hie : i = l.length := by
     rcases Nat.lt_or_ge l.length i with h' | h'
     ·exfalso
      have := hdep _ ho (i - 1) (hchain i _ ho h')
      have h2 := hlast (i - 1) (by omega) (by omega)
      rw [Array.getD_eq_getD_getElem?, Array.getElem?_eq_getElem (by omega)] at this h2
      simp at this h2
      rw [h2] at this
      cases this
     ·omega
    subst hie
    have hall : ∀ k, k ≤ l.length → ∀ i, i < l.length → i ≠ m → l.length - i ≤ k → listed.getD i false = true := by
     intro k
     induction k with
     | zero => intro _ i hi _ hk; omega
     | succ k ihk =>
      intro hk1 i hi him hk
      obtain ⟨j, o, hij, hjl, hjm, hjo, hmem⟩ := hcov' i hi him
      by_cases hj : j < l.length
      ·exact hdown j o (ihk (by omega) j hj hjm (by omega)) hjo i hmem
      ·have hj' : j = l.length := by omega
       subst hj'
       exact hdep o hjo i hmem
    have hall' := fun i hi him => hall l.length (Nat.le_refl _) i hi him (by omega)
    by_cases hmd : listed.getD m false = true
    rotate_left
    ·have hmf : listed.getD m false = false := by simpa using hmd
     obtain ⟨om, hom⟩ : ∃ om, l[m]? = some om := ⟨l[m], List.getElem?_eq_getElem hml⟩
     have hom' : (l ++ last :: tail)[m]? = some om := by rw [List.getElem?_append_left hml]; exact hom
     have holast : (l ++ last :: tail)[l.length]? = some last := by simp
     have hf' := fin2 v w om hom hE (allBut_mk l 0 fun i hi him => by rw [Nat.zero_add] at him ⊢; exact hR i (hall' i hi him)) (hold m om hom hmf)
     -- what is not listed: m, the last ones
     have hcount : 2 + tail.length ≤ (listed.toList.filter (· == false)).length := by
      have e1 : listed.toList = listed.toList.take l.length ++ listed.toList.drop l.length := (List.take_append_drop _ _).symm
      rw [e1, List.filter_append, List.length_append]
      have e2 : (listed.toList.drop l.length).filter (· == false) = listed.toList.drop l.length := by
       rw [List.filter_eq_self]
       intro b hb
       obtain ⟨k, hk, rfl⟩ := List.mem_iff_getElem.1 hb
       simp at hk
       have h2 := hlast (l.length + k) (by omega) (by omega)
       rw [Array.getD_eq_getD_getElem?, Array.getElem?_eq_getElem (by omega)] at h2
       simp at h2
       simp [h2]
      have e3 : 1 ≤ ((listed.toList.take l.length).filter (· == false)).length := by
       refine List.length_pos_iff.2 (List.ne_nil_of_mem (a := false) ?_)
       rw [List.mem_filter]
       refine ⟨?_, rfl⟩
       rw [List.mem_take_iff_getElem]
       have h2 := hmf
       rw [Array.getD_eq_getD_getElem?, Array.getElem?_eq_getElem (by omega)] at h2
       simp at h2
       exact ⟨m, by simp; omega, by simpa using h2⟩
      have e4 : (listed.toList.drop l.length).length = 1 + tail.length := by simp; omega
      rw [e2, e4]
      omega
     obtain ⟨f, rfl⟩ : ∃ f, fuel = f + 1 := ⟨fuel - 1, by omega⟩
     have hset1 : ∀ j, (listed.setIfInBounds l.length true).getD j false = if j = l.length then true else listed.getD j false := by
      intro j
      rw [Array.getD_eq_getD_getElem?, Array.getElem?_setIfInBounds]
      by_cases e : l.length = j
      ·subst e; rw [if_pos rfl, if_pos (by omega), if_pos rfl]; rfl
      ·rw [if_neg e, if_neg (fun e' => e e'.symm), Array.getD_eq_getD_getElem?]
     have htail : ∀ a w, wpList P (l ++ last :: tail).toArray Q tail a w → wpAny P .any (l ++ last :: tail).toArray Q f ((listed.setIfInBounds l.length true).setIfInBounds m true) a w := by
      intro a w h
      refine wpAny_chain (P := P) (Q := Q) hwait hback' l.length hchain tail (l.length + 1) (by simp [List.drop_append]) (by omega) (by omega) _ (by simp; omega) (fun j hj => ?_) f (by omega) a w h
      rw [Array.getD_eq_getD_getElem?, Array.getElem?_setIfInBounds]
      by_cases e : m = j
      ·subst e; rw [if_pos rfl, if_pos (by simp; omega)]; simp; omega
      ·rw [if_neg e, ← Array.getD_eq_getD_getElem?, hset1]
       by_cases e2 : j = l.length
       ·rw [if_pos e2]; simp; omega
       ·rw [if_neg e2]
        by_cases hjl : j < l.length
        ·rw [hall' j hjl (fun e' => e e'.symm)]; simp; omega
        ·have h2 := hlast j (by omega) (by omega)
         rw [Array.getD_eq_getD_getElem?, Array.getElem?_eq_getElem (by omega)] at h2 ⊢
         simp at h2 ⊢
         rw [h2]; simp; omega
     have hmid : ∀ a w, wpList P (l ++ last :: tail).toArray Q (om :: tail) a w → wpAny P .any (l ++ last :: tail).toArray Q (f + 1) (listed.setIfInBounds l.length true) a w := by
      intro a w h
      have hrd : ∀ j, j ∈ Region.ready .any (l ++ last :: tail).toArray (listed.setIfInBounds l.length true) ↔ j = m := by
       intro j
       rw [hwait]
       constructor
       ·rintro ⟨hj, hu', hd'⟩
        have hu'' : (listed.setIfInBounds l.length true).getD j false = false := by
         rw [Array.getD_eq_getD_getElem?, Array.getElem?_eq_getElem (by simp; omega)] at hu' ⊢
         simpa using hu'
        rw [hset1] at hu''
        by_cases e2 : j = l.length
        ·rw [if_pos e2] at hu''; cases hu''
        rw [if_neg e2] at hu''
        by_cases hjl : j < l.length
        ·by_cases hjm : j = m
         ·exact hjm
         ·rw [hall' j hjl hjm] at hu''; cases hu''
        ·exfalso
         have hoj : (l ++ last :: tail)[j]? = some (l ++ last :: tail)[j] := List.getElem?_eq_getElem hj
         by_cases hj1 : j = l.length + 1
         ·subst hj1
          have := hd' _ hoj m (hnextm _ hoj)
          rw [hset1, if_neg (by omega), hmf] at this
          cases this
         ·have := hd' _ hoj (j - 1) (hchain j _ hoj (by omega))
          rw [hset1, if_neg (by omega)] at this
          have h2 := hlast (j - 1) (by omega) (by omega)
          rw [Array.getD_eq_getD_getElem?, Array.getElem?_eq_getElem (by omega)] at this h2
          simp at this h2
          rw [h2] at this
          cases this
       ·rintro rfl
        refine ⟨by omega, ?_, fun o ho j hj => ?_⟩
        ·have h2 := hset1 j
         rw [if_neg (by omega), hmf, Array.getD_eq_getD_getElem?, Array.getElem?_eq_getElem (by simp; omega)] at h2
         rw [Array.getD_eq_getD_getElem?, Array.getElem?_eq_getElem (by simp; omega)]
         simpa using h2
        ·have hjm := hback' _ o ho j hj
         rw [hset1, if_neg (by omega)]
         exact hall' j (by omega) (by omega)
      refine ⟨fun hr => ?_, fun j hj => ?_⟩
      ·have := (hrd m).2 rfl
       rw [hr] at this
       cases this
      ·obtain rfl := (hrd j).1 hj
       unfold wpOp
       simp only [List.getElem?_toArray, hom']
       unfold wpList at h
       split
       ·rename_i hw
        rw [if_pos hw] at h
        exact h.imp (fun h => Oper.wp_mono (fun a w h => htail a w h) h) (fun h => h)
       ·rename_i hw
        rw [if_neg hw] at h
        exact htail _ _ h
     unfold wpOp
     simp only [List.getElem?_toArray, holast]
     unfold wpList at hf'
     split
     ·rename_i hw
      rw [if_pos hw] at hf'
      exact hf'.imp (fun h => Oper.wp_mono (fun a w h => hmid a w h) h) (fun h => h)
     ·rename_i hw
      rw [if_neg hw] at hf'
      exact hmid _ _ hf'
    have hall : ∀ i, i < l.length → listed.getD i false = true := fun i hi => by
     by_cases him : i = m
     ·rw [him]; exact hmd
     ·exact hall' i hi him
    have hf' := fin v w hE (allOf_mk l 0 fun i hi => by rw [Nat.zero_add]; exact hR i (hall i hi))
    have hch := wpAny_chain (P := P) (Q := Q) hwait hback' l.length hchain (last :: tail) l.length (by simp) (by omega) (Nat.le_refl _) listed (by omega) (fun i hi => by
     by_cases h' : i < l.length
     ·rw [hall i h']; simpa using h'
     ·have h2 := hlast i (by omega) (by omega)
      rw [Array.getD_eq_getD_getElem?, Array.getElem?_eq_getElem (by omega)] at h2 ⊢
      simp at h2 ⊢
      rw [h2]; simpa using h') (fuel + 1) (by
       -- what is not listed is at least as much
       have hlen : (last :: tail).length ≤ (listed.toList.filter (· == false)).length := by
        have e1 : listed.toList = listed.toList.take l.length ++ listed.toList.drop l.length := (List.take_append_drop _ _).symm
        rw [e1, List.filter_append, List.length_append]
        have e2 : (listed.toList.drop l.length).filter (· == false) = listed.toList.drop l.length := by
         rw [List.filter_eq_self]
         intro b hb
         obtain ⟨k, hk, rfl⟩ := List.mem_iff_getElem.1 hb
         simp at hk
         have h2 := hlast (l.length + k) (by omega) (by omega)
         rw [Array.getD_eq_getD_getElem?, Array.getElem?_eq_getElem (by omega)] at h2
         simp at h2
         simp [h2]
        rw [e2]
        simp
        omega
       omega) _ w hf'
    exact hch.2 l.length hi
 refine wp_region_any hm ?_
 have hE : Ext w0 { w0 with drawn := w0.drawn + 1 } := ⟨rfl, rfl, rfl, Nat.le_refl _, fun _ _ => rfl⟩
 let v0 : Nat → Value := fun i => match l[i]? with | some o => (match o.dst with | some d => a0.tmps.getD d undef | none => undef) | none => undef
 have hself : putAll v0 l 0 a0 = a0 := putAll_self v0 l 0 a0 fun i o d ho hd => by
  have hdl : d < a0.tmps.size := by
   have := List.all_eq_true.1 hsz d (List.mem_filterMap.2 ⟨o, List.mem_append_left _ (List.mem_of_getElem? ho), hd⟩)
   simpa using this
  simp only [v0, Nat.zero_add, ho, hd]
  rw [Array.getD_eq_getD_getElem?, Array.getElem?_eq_getElem hdl]
  rfl
 have hnone : ∀ i, (Array.replicate (l ++ last :: tail).toArray.size false).getD i false = true → False := by
  intro i hi
  rw [Array.getD_eq_getD_getElem?, Array.getElem?_replicate] at hi
  split at hi <;> simp at hi
 have := main (l ++ last :: tail).toArray.size (Array.replicate (l ++ last :: tail).toArray.size false) v0 { w0 with drawn := w0.drawn + 1 } (by simp; omega) (by simp)
  (fun k _ hk => by rw [Array.getD_eq_getD_getElem?, Array.getElem?_replicate, if_pos (by simp; omega)]; rfl) (fun i o hi => (hnone i hi).elim) hE (fun i hi => (hnone i hi).elim) (fun i o ho _ => by simp only [v0, ho, oldOf])
 rw [hself] at this
 exact this
theorem wp_drawn_late {P : Program} {id : Nat} {ops : List Oper} (p m : Nat) {Q : Exit → Act → World → Prop} {a0 : Act} {w0 : World} (Rs : List SPred) (hp : p < ops.length)
  (hm : P.follows .mixedOrders = true) (hok : regionOk ops a0.tmps.size = true) (hcov : coveredBut ops p m = true)
  (steps : allSteps' P ops.toArray w0 a0 (knowing Rs) (ops.take p) (ops.take p) 0)
  (fin : ∀ (v : Nat → Value) (w : World), Ext w0 w → allOf (knowing Rs) v w (ops.take p) 0 → wpList P ops.toArray Q (ops.drop p) (putAll v (ops.take p) 0 a0) w)
  (fin2 : ∀ (v : Nat → Value) (w : World) (om : Oper), (ops.take p)[m]? = some om → Ext w0 w → allBut (knowing Rs) v w m (ops.take p) 0 → v m = oldOf a0 om → wpList P ops.toArray Q ((ops.drop p).take 1 ++ om :: (ops.drop p).drop 1) (putAll v (ops.take p) 0 a0) w) :
  (Code.region id ops.toArray true).wp P Q a0 w0 := by
 have e : ops = ops.take p ++ ops.drop p := (List.take_append_drop _ _).symm
 obtain ⟨x, t, ht⟩ : ∃ x t, ops.drop p = x :: t := ⟨_, _, List.drop_eq_getElem_cons hp⟩
 have hl : (ops.take p).length = p := by simp; omega
 rw [ht] at e fin fin2
 generalize ops.take p = l at e steps fin fin2 hl
 subst e
 subst hl
 exact wp_region_drawn_late (knowing Rs) m hm hok hcov (fun i v w w' h hE => (Rs.getD i anyV).st v w w' h hE) steps fin fin2
end Go.Proofs.YtakebdeldndaaaaGreatDoor
/- A drawn region in which one operation (q) writes into blocks that are younger than the region: an append onto an append. What is known of other slots hangs on no world (kind 0), or is needed by q alone, or by what q waits on (kind 1), or comes behind q (kind 2). -/
namespace Go.Proofs.YtakebdeldndaaaaGreatDoor
open Go Go.RowKit
def allKind (R : Nat → Value → World → Prop) (v : Nat → Value) (w : World) (kinds : Nat → Nat) : List Oper → Nat → Prop
 | [], _ => True
 | _ :: l, i => (kinds i ≠ 1 → R i (v i) w) ∧ allKind R v w kinds l (i + 1)
theorem allKind_mk {R : Nat → Value → World → Prop} {v : Nat → Value} {w : World} {kinds : Nat → Nat} : ∀ (l : List Oper) (k : Nat), (∀ i, i < l.length → kinds (k + i) ≠ 1 → R (k + i) (v (k + i)) w) → allKind R v w kinds l k
 | [], _, _ => trivial
 | x :: l, k, h => ⟨fun hk => by simpa using h 0 (by simp) (by simpa using hk), allKind_mk l (k + 1) fun i hi hik => by
   have e : k + 1 + i = k + (i + 1) := by omega
   rw [e] at hik ⊢
   exact h (i + 1) (by simpa using hi) hik⟩
def kindsOk (l : List Oper) (q : Nat) (kinds : Nat → Nat) : Bool :=
 (l.zipIdx.all fun (o, j) => (waitsOn o).all fun i => decide (kinds i ≠ 1) || decide (j = q) || (match l[q]? with | some oq => (waitsOn oq).contains j | none => false)) &&
 (l.zipIdx.all fun (o, j) => decide (kinds j = 0) || decide (kinds j = 1) || decide (j = q) || (waitsOn o).contains q)
def stepOkW (P : Program) (ops : Array Oper) (w0 : World) (a0 : Act) (R : Nat → Value → World → Prop) (base : List Oper) (q i : Nat) (o : Oper) : Prop :=
 ∀ (v : Nat → Value) (w : World), Ext w0 w → deps R v w (waitsOn o) →
  if Region.wanted o (yielded ops (putAll v base 0 a0).tmps) then o.wp P (putAll v base 0 a0) w (fun a' w' => ∃ x, a' = (putAll v base 0 a0).put o.dst x ∧ (if i = q then Ext w0 w' else Ext w w') ∧ R i x w') (fun _ _ _ => False)
  else R i undef w
def allStepsW (P : Program) (ops : Array Oper) (w0 : World) (a0 : Act) (R : Nat → Value → World → Prop) (base : List Oper) (q : Nat) : List Oper → Nat → Prop
 | [], _ => True
 | o :: l, i => stepOkW P ops w0 a0 R base q i o ∧ allStepsW P ops w0 a0 R base q l (i + 1)
theorem allStepsW_get {P : Program} {ops : Array Oper} {w0 : World} {a0 : Act} {R : Nat → Value → World → Prop} {base : List Oper} {q : Nat} : ∀ (l : List Oper) (k : Nat), allStepsW P ops w0 a0 R base q l k → ∀ i o, l[i]? = some o → stepOkW P ops w0 a0 R base q (k + i) o
 | [], _, _, i, o, h => by simp at h
 | x :: l, k, ⟨h0, h1⟩, i, o, h => by
  cases i with
  | zero => simp at h; subst h; exact h0
  | succ i =>
   have := allStepsW_get l (k + 1) h1 i o (by simpa using h)
   rwa [show k + (i + 1) = k + 1 + i by omega]
set_option maxHeartbeats 1000000 in
theorem wp_region_drawn_w {P : Program} {id : Nat} {l : List Oper} {last : Oper} {tail : List Oper} {Q : Exit → Act → World → Prop} {a0 : Act} {w0 : World} (R : Nat → Value → World → Prop) (q : Nat) (kinds : Nat → Nat)
  (hm : P.follows .mixedOrders = true) (hok : regionOk (l ++ last :: tail) a0.tmps.size = true) (hcov : covered (l ++ last :: tail) l.length = true) (hq : q < l.length) (hkinds : kindsOk (l ++ last :: tail) q kinds = true)
  (stab : ∀ i v w w', R i v w → Ext w w' → R i v w') (still : ∀ i v w w', kinds i = 0 → R i v w → R i v w')
  (steps : allStepsW P (l ++ last :: tail).toArray w0 a0 R l q l 0)
  (fin : ∀ (v : Nat → Value) (w : World), Ext w0 w → allKind R v w kinds l 0 → wpList P (l ++ last :: tail).toArray Q (last :: tail) (putAll v l 0 a0) w) :
  (Code.region id (l ++ last :: tail).toArray true).wp P Q a0 w0 := by
 simp only [regionOk, Bool.and_eq_true, decide_eq_true_eq] at hok
 obtain ⟨⟨hback, hnd⟩, hsz⟩ := hok
 have hll : (l ++ last :: tail).length = l.length + 1 + tail.length := by simp; omega
 have hback' : ∀ i o, (l ++ last :: tail)[i]? = some o → ∀ j ∈ waitsOn o, j < i := by
  intro i o ho j hj
  have h1 := List.all_eq_true.1 hback (o, i) (by
   rw [List.mem_zipIdx_iff_getElem?]; exact ho)
  have h2 := List.all_eq_true.1 h1 j hj
  simpa using h2
 simp only [covered, Bool.and_eq_true] at hcov
 obtain ⟨hcov1, hcov2⟩ := hcov
 have hcov' : ∀ i, i < l.length → ∃ j o, i < j ∧ j ≤ l.length ∧ (l ++ last :: tail)[j]? = some o ∧ i ∈ waitsOn o := by
  intro i hi
  have h1 := List.all_eq_true.1 hcov1 i (by simp; exact hi)
  obtain ⟨⟨o, j⟩, hmem, h2⟩ := List.any_eq_true.1 h1
  rw [List.mem_zipIdx_iff_getElem?] at hmem
  simp only [Bool.and_eq_true, decide_eq_true_eq, List.contains_iff_mem] at h2
  exact ⟨j, o, h2.1.1, h2.1.2, hmem, h2.2⟩
 have hchain : ∀ i o, (l ++ last :: tail)[i]? = some o → l.length < i → i - 1 ∈ waitsOn o := by
  intro i o ho hi
  have h1 := List.all_eq_true.1 hcov2 (o, i) (by rw [List.mem_zipIdx_iff_getElem?]; exact ho)
  simpa [hi] using h1
 obtain ⟨oq, hoq⟩ : ∃ oq, (l ++ last :: tail)[q]? = some oq := ⟨_, List.getElem?_eq_getElem (by omega)⟩
 have hpre : ∀ i, kinds i = 1 → ∀ j o, (l ++ last :: tail)[j]? = some o → i ∈ waitsOn o → j = q ∨ j ∈ waitsOn oq := by
  intro i hk j o ho hi
  simp only [kindsOk, Bool.and_eq_true] at hkinds
  have h1 := List.all_eq_true.1 hkinds.1 (o, j) (by rw [List.mem_zipIdx_iff_getElem?]; exact ho)
  have h2 := List.all_eq_true.1 h1 i hi
  simp only [hk, hoq, Bool.or_eq_true, decide_eq_true_eq, List.contains_iff_mem] at h2
  rcases h2 with (h2 | h2) | h2
  ·exact absurd rfl h2
  ·exact .inl h2
  ·exact .inr h2
 have hpost : ∀ j o, kinds j ≠ 0 → kinds j ≠ 1 → (l ++ last :: tail)[j]? = some o → j = q ∨ q ∈ waitsOn o := by
  intro j o h0 h1' ho
  simp only [kindsOk, Bool.and_eq_true] at hkinds
  have h1 := List.all_eq_true.1 hkinds.2 (o, j) (by rw [List.mem_zipIdx_iff_getElem?]; exact ho)
  simp only [Bool.or_eq_true, decide_eq_true_eq, List.contains_iff_mem] at h1
  rcases h1 with ((h1 | h1) | h1) | h1
  ·exact absurd h1 h0
  ·exact absurd h1 h1'
  ·exact .inl h1
  ·exact .inr h1
 have hwait : ∀ i (listed : Array Bool), i ∈ Region.ready .any (l ++ last :: tail).toArray listed ↔ (i < (l ++ last :: tail).length ∧ listed.getD i true = false ∧ ∀ o, (l ++ last :: tail)[i]? = some o → ∀ j ∈ waitsOn o, listed.getD j false = true) := by
  intro i listed
  unfold Region.ready
  simp only [List.mem_filter, List.mem_range, List.size_toArray, Bool.and_eq_true, Bool.not_eq_true']
  refine and_congr_right fun hi => and_congr_right fun _ => ?_
  simp only [List.getElem?_toArray, List.getElem?_eq_getElem hi, Option.map_some, Option.getD_some, Option.some.injEq]
  constructor
  ·intro h o ho j hj
   subst ho
   simp only [waitsOn, List.mem_map, List.mem_filter] at hj
   obtain ⟨e, ⟨he, hb⟩, rfl⟩ := hj
   have := Array.all_eq_true_iff_forall_mem.1 h e (by simpa using he)
   simpa [hb] using this
  ·intro h
   rw [Array.all_eq_true_iff_forall_mem]
   intro e he
   by_cases hb : Region.binds .any e = true
   ·have := h _ rfl e.on (by
     simp only [waitsOn, List.mem_map, List.mem_filter]
     exact ⟨e, ⟨by simpa using he, hb⟩, rfl⟩)
    simp [hb, this]
   ·simp [hb]
 have hnd1 : (l.filterMap (·.dst)).Nodup := by
  rw [List.filterMap_append] at hnd
  exact (List.nodup_append.1 hnd).1
 have main : ∀ (fuel : Nat) (listed : Array Bool) (v : Nat → Value) (w : World), listed.size = l.length + 1 + tail.length → (listed.toList.filter (· == false)).length ≤ fuel →
   (∀ k, l.length ≤ k → k < l.length + 1 + tail.length → listed.getD k true = false) → (∀ i o, listed.getD i false = true → (l ++ last :: tail)[i]? = some o → ∀ j ∈ waitsOn o, listed.getD j false = true) →
   Ext w0 w → (∀ i, listed.getD i false = true → (kinds i = 1 ∧ listed.getD q false = true) ∨ R i (v i) w) → wpAny P .any (l ++ last :: tail).toArray Q fuel listed (putAll v l 0 a0) w := by
  intro fuel
  induction fuel with
  | zero =>
   intro listed v w hl hf hlast _ _ _
   exfalso
   have he : listed.toList.filter (· == false) = [] := List.eq_nil_of_length_eq_zero (by omega)
   rw [List.filter_eq_nil_iff] at he
   have hil' : l.length < listed.size := by omega
   have := he listed[l.length] (by simp)
   have hlast := hlast l.length (Nat.le_refl _) (by omega)
   rw [Array.getD_eq_getD_getElem?, Array.getElem?_eq_getElem hil'] at hlast
   simp only [Option.getD_some] at hlast
   simp [hlast] at this
  | succ fuel ih =>
   intro listed v w hl hf hlast hdown hE hR
   have hnot : Region.ready .any (l ++ last :: tail).toArray listed ≠ [] := by
    -- the least that is not listed is ready
    intro hnil
    have all : ∀ i, i < l.length + 1 + tail.length → listed.getD i false = true := by
     intro i
     induction i using Nat.strongRecOn with
     | _ i ih2 =>
      intro hi
      by_cases hd : listed.getD i false = true
      ·exact hd
      ·exfalso
       have : i ∈ Region.ready .any (l ++ last :: tail).toArray listed := by
        rw [hwait]
        refine ⟨by omega, ?_, fun o ho j hj => ih2 j (hback' i o ho j hj) (by have := hback' i o ho j hj; omega)⟩
        simp only [Array.getD_eq_getD_getElem?] at hd ⊢
        rw [Array.getElem?_eq_getElem (by omega)] at hd ⊢
        simpa using hd
       rw [hnil] at this
       cases this
    have h1 := all l.length (by omega)
    have hlast := hlast l.length (Nat.le_refl _) (by omega)
    rw [Array.getD_eq_getD_getElem?, Array.getElem?_eq_getElem (by omega)] at h1 hlast
    simp at h1 hlast
    rw [h1] at hlast
    cases hlast
   refine ⟨fun hr => absurd hr hnot, fun i hi => ?_⟩
   obtain ⟨hil, hu, hdep⟩ := (hwait i listed).1 hi
   have ho : (l ++ last :: tail)[i]? = some (l ++ last :: tail)[i] := List.getElem?_eq_getElem hil
   by_cases hi1 : i < l.length
   ·have ho1 : l[i]? = some (l ++ last :: tail)[i] := by rw [← ho, List.getElem?_append_left hi1]
    have hst := allStepsW_get l 0 steps i _ ho1
    rw [Nat.zero_add] at hst
    have hiu : listed.getD i false = false := by
     rw [Array.getD_eq_getD_getElem?, Array.getElem?_eq_getElem (by omega)] at hu ⊢
     simpa using hu
    have hst := hst v w hE (deps_mk _ fun j hj => by
     rcases hR j (hdep _ ho j hj) with ⟨hk, hql⟩ | h
     ·exfalso
      rcases hpre j hk i _ ho hj with e | e
      ·rw [e, hql] at hiu; cases hiu
      ·rw [hdown q oq hql hoq i e] at hiu; cases hiu
     ·exact h)
    have next : ∀ x w', (if i = q then Ext w0 w' else Ext w w') → R i x w' → wpAny P .any (l ++ last :: tail).toArray Q fuel (listed.setIfInBounds i true) ((putAll v l 0 a0).put (l ++ last :: tail)[i].dst x) w' := by
     intro x w' hE' hx
     rw [putAll_put v x l 0 i a0 _ hnd1 ho1]
     refine ih (listed.setIfInBounds i true) _ w' (by simpa using hl) ?_ ?_ ?_ (by by_cases e : i = q; (rw [if_pos e] at hE'; exact hE'); (rw [if_neg e] at hE'; exact Ext.trans' hE hE')) ?_
     ·have hil' : i < listed.size := by omega
      have hfalse : listed[i] = false := by
       rw [Array.getD_eq_getD_getElem?, Array.getElem?_eq_getElem hil'] at hu
       simpa using hu
      have e1 : listed.toList = listed.toList.take i ++ false :: listed.toList.drop (i + 1) := by
       rw [← hfalse]
       conv => lhs; rw [← List.take_append_drop i listed.toList]
       congr 1
       rw [List.drop_eq_getElem_cons (by simpa using hil')]
       simp
      have e2 : (listed.setIfInBounds i true).toList = listed.toList.take i ++ true :: listed.toList.drop (i + 1) := by
       rw [Array.toList_setIfInBounds, List.set_eq_take_append_cons_drop, if_pos (by simpa using hil')]
      rw [e1] at hf
      rw [e2]
      simp only [List.filter_append, List.filter_cons, List.length_append] at hf ⊢
      simp at hf ⊢
      omega
     ·intro k hk1 hk2
      rw [Array.getD_eq_getD_getElem?, Array.getElem?_setIfInBounds_ne (by omega), ← Array.getD_eq_getD_getElem?]
      exact hlast k hk1 hk2
     ·intro k o hk hko j hj
      have hset : ∀ j, listed.getD j false = true → (listed.setIfInBounds i true).getD j false = true := by
       intro j h
       rw [Array.getD_eq_getD_getElem?] at h ⊢
       rw [Array.getElem?_setIfInBounds]
       split
       ·split <;> simp_all
       ·exact h
      by_cases e : k = i
      ·subst e
       have : o = (l ++ last :: tail)[k] := by rw [ho] at hko; exact (Option.some.inj hko).symm
       subst this
       exact hset j (hdep _ ho j hj)
      ·refine hset j (hdown k o ?_ hko j hj)
       rw [Array.getD_eq_getD_getElem?, Array.getElem?_setIfInBounds_ne (Ne.symm e), ← Array.getD_eq_getD_getElem?] at hk
       exact hk
     ·intro j hj
      by_cases e : j = 0 + i
      ·rw [if_pos e]
       have : j = i := by omega
       subst this
       exact .inr hx
      ·rw [if_neg e]
       have hne : i ≠ j := by omega
       rw [Array.getD_eq_getD_getElem?, Array.getElem?_setIfInBounds_ne hne, ← Array.getD_eq_getD_getElem?] at hj
       have hmono : listed.getD q false = true → (listed.setIfInBounds i true).getD q false = true := by
        intro h
        rw [Array.getD_eq_getD_getElem?] at h ⊢
        rw [Array.getElem?_setIfInBounds]
        split
        ·split <;> simp_all
        ·exact h
       rcases hR j hj with ⟨h1, h2⟩ | h1
       ·exact .inl ⟨h1, hmono h2⟩
       ·by_cases eq : i = q
        ·by_cases k1 : kinds j = 1
         ·refine .inl ⟨k1, ?_⟩
          rw [← eq, Array.getD_eq_getD_getElem?, Array.getElem?_setIfInBounds, if_pos rfl, if_pos (by omega)]
          rfl
         ·by_cases k0 : kinds j = 0
          ·exact .inr (still j _ w w' k0 h1)
          ·exfalso
           have hjl : j < (l ++ last :: tail).length := by
            rcases Nat.lt_or_ge j (l ++ last :: tail).length with h | h
            ·exact h
            ·rw [Array.getD_eq_getD_getElem?, Array.getElem?_eq_none (by omega)] at hj; cases hj
           rcases hpost j _ k0 k1 (List.getElem?_eq_getElem hjl) with e' | e'
           ·omega
           ·have := hdown j _ hj (List.getElem?_eq_getElem hjl) q e'
            rw [← eq, hiu] at this; cases this
        ·rw [if_neg eq] at hE'
         exact .inr (stab j _ w w' h1 hE')
    unfold wpOp
    simp only [List.getElem?_toArray, ho]
    split
    ·rename_i hw
     rw [if_pos hw] at hst
     exact .inl (wp_post (Oper.wp_mono (K' := wpAny P .any (l ++ last :: tail).toArray Q fuel (listed.setIfInBounds i true)) (h := fun a' w' ⟨x, e, hE', hx⟩ => by rw [e]; exact next x w' hE' hx) hst))
    ·rename_i hw
     rw [if_neg hw] at hst
     exact next undef w (by by_cases e : i = q; (rw [if_pos e]; exact hE); (rw [if_neg e]; exact Below.refl _ _)) hst
   ·-- the first of the last: all ahead of it are there, none of the others
    have hie : i = l.length := by
     rcases Nat.lt_or_ge l.length i with h' | h'
     ·exfalso
      have := hdep _ ho (i - 1) (hchain i _ ho h')
      have h2 := hlast (i - 1) (by omega) (by omega)
      rw [Array.getD_eq_getD_getElem?, Array.getElem?_eq_getElem (by omega)] at this h2
      simp at this h2
      rw [h2] at this
      cases this
     ·omega
    subst hie
    have hall : ∀ k, k ≤ l.length → ∀ i, i < l.length → l.length - i ≤ k → listed.getD i false = true := by
     intro k
     induction k with
     | zero => intro _ i hi hk; omega
     | succ k ihk =>
      intro hk1 i hi hk
      obtain ⟨j, o, hij, hjl, hjo, hmem⟩ := hcov' i hi
      by_cases hj : j < l.length
      ·exact hdown j o (ihk (by omega) j hj (by omega)) hjo i hmem
      ·have hj' : j = l.length := by omega
       subst hj'
       exact hdep o hjo i hmem
    have hf' := fin v w hE (allKind_mk l 0 fun i hi hk => by rw [Nat.zero_add] at hk ⊢; rcases hR i (hall l.length (Nat.le_refl _) i hi (by omega)) with ⟨h1, -⟩ | h; exact absurd h1 hk; exact h)
    have hch := wpAny_chain (P := P) (Q := Q) hwait hback' l.length hchain (last :: tail) l.length (by simp) (by omega) (Nat.le_refl _) listed (by omega) (fun i hi => by
     by_cases h' : i < l.length
     ·rw [hall l.length (Nat.le_refl _) i h' (by omega)]; simpa using h'
     ·have h2 := hlast i (by omega) (by omega)
      rw [Array.getD_eq_getD_getElem?, Array.getElem?_eq_getElem (by omega)] at h2 ⊢
      simp at h2 ⊢
      rw [h2]; simpa using h') (fuel + 1) (by
       -- what is not listed is at least as much
       have hlen : (last :: tail).length ≤ (listed.toList.filter (· == false)).length := by
        have e1 : listed.toList = listed.toList.take l.length ++ listed.toList.drop l.length := (List.take_append_drop _ _).symm
        rw [e1, List.filter_append, List.length_append]
        have e2 : (listed.toList.drop l.length).filter (· == false) = listed.toList.drop l.length := by
         rw [List.filter_eq_self]
         intro b hb
         obtain ⟨k, hk, rfl⟩ := List.mem_iff_getElem.1 hb
         simp at hk
         have h2 := hlast (l.length + k) (by omega) (by omega)
         rw [Array.getD_eq_getD_getElem?, Array.getElem?_eq_getElem (by omega)] at h2
         simp at h2
         simp [h2]
        rw [e2]
        simp
        omega
       omega) _ w hf'
    exact hch.2 l.length hi
 refine wp_region_any hm ?_
 have hE : Ext w0 { w0 with drawn := w0.drawn + 1 } := ⟨rfl, rfl, rfl, Nat.le_refl _, fun _ _ => rfl⟩
 let v0 : Nat → Value := fun i => match l[i]? with | some o => (match o.dst with | some d => a0.tmps.getD d undef | none => undef) | none => undef
 have hself : putAll v0 l 0 a0 = a0 := putAll_self v0 l 0 a0 fun i o d ho hd => by
  have hdl : d < a0.tmps.size := by
   have := List.all_eq_true.1 hsz d (List.mem_filterMap.2 ⟨o, List.mem_append_left _ (List.mem_of_getElem? ho), hd⟩)
   simpa using this
  simp only [v0, Nat.zero_add, ho, hd]
  rw [Array.getD_eq_getD_getElem?, Array.getElem?_eq_getElem hdl]
  rfl
 have hnone : ∀ i, (Array.replicate (l ++ last :: tail).toArray.size false).getD i false = true → False := by
  intro i hi
  rw [Array.getD_eq_getD_getElem?, Array.getElem?_replicate] at hi
  split at hi <;> simp at hi
 have := main (l ++ last :: tail).toArray.size (Array.replicate (l ++ last :: tail).toArray.size false) v0 { w0 with drawn := w0.drawn + 1 } (by simp; omega) (by simp)
  (fun k _ hk => by rw [Array.getD_eq_getD_getElem?, Array.getElem?_replicate, if_pos (by simp; omega)]; rfl) (fun i o hi => (hnone i hi).elim) hE (fun i hi => (hnone i hi).elim)
 rw [hself] at this
 exact this
def kindOf (ks : List Nat) (i : Nat) : Nat := ks.getD i 0
def stillAll (Rs : List SPred) (ks : List Nat) : Prop := ∀ i, kindOf ks i = 0 → ∀ v w w', knowing Rs i v w → knowing Rs i v w'
theorem wp_drawn_w {P : Program} {id : Nat} {ops : List Oper} (p q : Nat) (ks : List Nat) {Q : Exit → Act → World → Prop} {a0 : Act} {w0 : World} (Rs : List SPred) (hp : p < ops.length) (hq : q < p)
  (hm : P.follows .mixedOrders = true) (hok : regionOk ops a0.tmps.size = true) (hcov : covered ops p = true) (hkinds : kindsOk ops q (kindOf ks) = true)
  (steps : allStepsW P ops.toArray w0 a0 (knowing Rs) (ops.take p) q (ops.take p) 0) (still : stillAll Rs ks)
  (fin : ∀ (v : Nat → Value) (w : World), Ext w0 w → allKind (knowing Rs) v w (kindOf ks) (ops.take p) 0 → wpList P ops.toArray Q (ops.drop p) (putAll v (ops.take p) 0 a0) w) :
  (Code.region id ops.toArray true).wp P Q a0 w0 := by
 have e : ops = ops.take p ++ ops.drop p := (List.take_append_drop _ _).symm
 obtain ⟨x, t, ht⟩ : ∃ x t, ops.drop p = x :: t := ⟨_, _, List.drop_eq_getElem_cons hp⟩
 have hl : (ops.take p).length = p := by simp; omega
 rw [ht] at e fin
 generalize ops.take p = l at e steps fin hl
 subst e
 subst hl
 exact wp_region_drawn_w (knowing Rs) q (kindOf ks) hm hok hcov hq hkinds (fun i v w w' h hE => (Rs.getD i anyV).st v w w' h hE) (fun i v w w' hk h => still i hk v w w' h) steps fin
end Go.Proofs.YtakebdeldndaaaaGreatDoor
/- A drawn region that holds two calls that write, the second behind the first; its other operations only read. In each of the three stretches another claim holds of the world. -/
namespace Go.Proofs.YtakebdeldndaaaaGreatDoor
open Go Go.RowKit
def Stay (w w' : World) : Prop := w' = w
theorem Stay.refl (w : World) : Stay w w := rfl
def phaseOk (l : List Oper) (p q : Nat) : Bool := decide (p ≠ q) && decide (p < l.length) && decide (q < l.length) && (match l[q]? with | some o => (waitsOn o).contains p | none => false)
def stepPh (P : Program) (ops : Array Oper) (a0 : Act) (B : World → Prop) (I0 I1 I2 : World → Prop) (R : Nat → Value → World → Prop) (p q i : Nat) (o : Oper) : Prop :=
 ∀ (v : Nat → Value) (w : World), B w → (i = p → I0 w) → (i = q → I1 w) → deps R v w (waitsOn o) →
  if Region.wanted o (yielded ops (putAll v ops.toList 0 a0).tmps) then o.wp P (putAll v ops.toList 0 a0) w (fun a' w' => ∃ x, a' = (putAll v ops.toList 0 a0).put o.dst x ∧ (if i = p then B w' ∧ I1 w' else if i = q then B w' ∧ I2 w' else Stay w w') ∧ R i x w') (fun _ _ _ => False)
  else R i undef w ∧ i ≠ p ∧ i ≠ q
def allStepsPh (P : Program) (ops : Array Oper) (a0 : Act) (B : World → Prop) (I0 I1 I2 : World → Prop) (R : Nat → Value → World → Prop) (p q : Nat) : List Oper → Nat → Prop
 | [], _ => True
 | o :: l, i => stepPh P ops a0 B I0 I1 I2 R p q i o ∧ allStepsPh P ops a0 B I0 I1 I2 R p q l (i + 1)
theorem allStepsPh_get {P : Program} {ops : Array Oper} {a0 : Act} {B I0 I1 I2 : World → Prop} {R : Nat → Value → World → Prop} {p q : Nat} : ∀ (l : List Oper) (k : Nat), allStepsPh P ops a0 B I0 I1 I2 R p q l k → ∀ i o, l[i]? = some o → stepPh P ops a0 B I0 I1 I2 R p q (k + i) o
 | [], _, _, i, o, h => by simp at h
 | x :: l, k, ⟨h0, h1⟩, i, o, h => by
  cases i with
  | zero => simp at h; subst h; exact h0
  | succ i =>
   have := allStepsPh_get l (k + 1) h1 i o (by simpa using h)
   rwa [show k + (i + 1) = k + 1 + i by omega]
theorem stepPh_quiet {P : Program} {ops : Array Oper} {a0 : Act} {B I0 I1 I2 : World → Prop} {R : Nat → Value → World → Prop} {p q i : Nat} {o : Oper} (h1 : i ≠ p) (h2 : i ≠ q)
  (h : ∀ (v : Nat → Value) (w : World), B w → deps R v w (waitsOn o) → if Region.wanted o (yielded ops (putAll v ops.toList 0 a0).tmps) then o.wp P (putAll v ops.toList 0 a0) w (fun a' w' => ∃ x, a' = (putAll v ops.toList 0 a0).put o.dst x ∧ Stay w w' ∧ R i x w') (fun _ _ _ => False) else R i undef w) : stepPh P ops a0 B I0 I1 I2 R p q i o := by
 intro v w hB _ _ hd
 have := h v w hB hd
 simp only [if_neg h1, if_neg h2]
 split
 ·rename_i hw; rw [if_pos hw] at this; exact this
 ·rename_i hw; rw [if_neg hw] at this; exact ⟨this, h1, h2⟩
theorem stepPh_fst {P : Program} {ops : Array Oper} {a0 : Act} {B I0 I1 I2 : World → Prop} {R : Nat → Value → World → Prop} {p q : Nat} {o : Oper}
  (h : ∀ (v : Nat → Value) (w : World), B w ∧ I0 w → deps R v w (waitsOn o) → (Region.wanted o (yielded ops (putAll v ops.toList 0 a0).tmps) = true ∧ o.wp P (putAll v ops.toList 0 a0) w (fun a' w' => ∃ x, a' = (putAll v ops.toList 0 a0).put o.dst x ∧ (B w' ∧ I1 w') ∧ R p x w') (fun _ _ _ => False))) : stepPh P ops a0 B I0 I1 I2 R p q p o := by
 intro v w hB h0 _ hd
 obtain ⟨h1, h2⟩ := h v w ⟨hB, h0 rfl⟩ hd
 rw [if_pos h1]
 simp only [↓reduceIte]
 exact h2
theorem stepPh_snd {P : Program} {ops : Array Oper} {a0 : Act} {B I0 I1 I2 : World → Prop} {R : Nat → Value → World → Prop} {p q : Nat} {o : Oper} (hpq : q ≠ p)
  (h : ∀ (v : Nat → Value) (w : World), B w ∧ I1 w → deps R v w (waitsOn o) → (Region.wanted o (yielded ops (putAll v ops.toList 0 a0).tmps) = true ∧ o.wp P (putAll v ops.toList 0 a0) w (fun a' w' => ∃ x, a' = (putAll v ops.toList 0 a0).put o.dst x ∧ (B w' ∧ I2 w') ∧ R q x w') (fun _ _ _ => False))) : stepPh P ops a0 B I0 I1 I2 R p q q o := by
 intro v w hB _ h0 hd
 obtain ⟨h1, h2⟩ := h v w ⟨hB, h0 rfl⟩ hd
 rw [if_pos h1]
 simp only [if_neg hpq, ↓reduceIte]
 exact h2
set_option maxHeartbeats 1000000 in
theorem wp_region_ph {P : Program} {id : Nat} {l : List Oper} {Q : Exit → Act → World → Prop} {a0 : Act} {w0 : World} (R : Nat → Value → World → Prop) (p q : Nat) (B I0 I1 I2 : World → Prop)
  (hm : P.follows .mixedOrders = true) (hok : regionOk l a0.tmps.size = true) (hph : phaseOk l p q = true)
  (start : ∀ w, Ext w0 w → B w ∧ I0 w)
  (still : ∀ i v w w', R i v w → R i v w')
  (steps : allStepsPh P l.toArray a0 B I0 I1 I2 R p q l 0)
  (fin : ∀ (v : Nat → Value) (w : World), B w → I2 w → allOf R v w l 0 → Q .normal (putAll v l 0 a0) w) :
  (Code.region id l.toArray true).wp P Q a0 w0 := by
 simp only [regionOk, Bool.and_eq_true, decide_eq_true_eq] at hok
 obtain ⟨⟨hback, hnd⟩, hsz⟩ := hok
 have hback' : ∀ i o, l[i]? = some o → ∀ j ∈ waitsOn o, j < i := by
  intro i o ho j hj
  have h1 := List.all_eq_true.1 hback (o, i) (by
   rw [List.mem_zipIdx_iff_getElem?]; exact ho)
  have h2 := List.all_eq_true.1 h1 j hj
  simpa using h2
 have hwait : ∀ i (listed : Array Bool), i ∈ Region.ready .any l.toArray listed ↔ (i < l.length ∧ listed.getD i true = false ∧ ∀ o, l[i]? = some o → ∀ j ∈ waitsOn o, listed.getD j false = true) := by
  intro i listed
  unfold Region.ready
  simp only [List.mem_filter, List.mem_range, List.size_toArray, Bool.and_eq_true, Bool.not_eq_true']
  refine and_congr_right fun hi => and_congr_right fun _ => ?_
  simp only [List.getElem?_toArray, List.getElem?_eq_getElem hi, Option.map_some, Option.getD_some, Option.some.injEq]
  constructor
  ·intro h o ho j hj
   subst ho
   simp only [waitsOn, List.mem_map, List.mem_filter] at hj
   obtain ⟨e, ⟨he, hb⟩, rfl⟩ := hj
   have := Array.all_eq_true_iff_forall_mem.1 h e (by simpa using he)
   simpa [hb] using this
  ·intro h
   rw [Array.all_eq_true_iff_forall_mem]
   intro e he
   by_cases hb : Region.binds .any e = true
   ·have := h _ rfl e.on (by
     simp only [waitsOn, List.mem_map, List.mem_filter]
     exact ⟨e, ⟨by simpa using he, hb⟩, rfl⟩)
    simp [hb, this]
   ·simp [hb]
 simp only [phaseOk, Bool.and_eq_true, decide_eq_true_eq] at hph
 obtain ⟨⟨⟨hpq, hpl⟩, hql⟩, hwq⟩ := hph
 have hwq' : ∀ o, l[q]? = some o → p ∈ waitsOn o := by
  intro o ho
  rw [ho] at hwq
  simpa using hwq
 -- the stretches
 let J : Array Bool → World → Prop := fun listed w => B w ∧ ((listed.getD p false = false ∧ listed.getD q false = false ∧ I0 w) ∨ (listed.getD p false = true ∧ listed.getD q false = false ∧ I1 w) ∨ (listed.getD p false = true ∧ listed.getD q false = true ∧ I2 w))
 have main : ∀ (fuel : Nat) (listed : Array Bool) (v : Nat → Value) (w : World), listed.size = l.length → (listed.toList.filter (· == false)).length ≤ fuel →
   J listed w → (∀ i, listed.getD i false = true → R i (v i) w) → wpAny P .any l.toArray Q fuel listed (putAll v l 0 a0) w := by
  have allDone : ∀ (listed : Array Bool), listed.size = l.length → Region.ready .any l.toArray listed = [] → ∀ i, i < l.length → listed.getD i false = true := by
   intro listed hl hr i
   induction i using Nat.strongRecOn with
   | _ i ih =>
    intro hi
    by_cases hd : listed.getD i false = true
    ·exact hd
    ·exfalso
     have : i ∈ Region.ready .any l.toArray listed := by
      rw [hwait]
      refine ⟨hi, ?_, fun o ho j hj => ih j (hback' i o ho j hj) (by have := hback' i o ho j hj; omega)⟩
      simp only [Array.getD_eq_getD_getElem?] at hd ⊢
      rw [Array.getElem?_eq_getElem (by omega)] at hd ⊢
      simpa using hd
     rw [hr] at this
     cases this
  have finish : ∀ (listed : Array Bool) (v : Nat → Value) (w : World), listed.size = l.length → Region.ready .any l.toArray listed = [] → J listed w → (∀ i, listed.getD i false = true → R i (v i) w) → Q .normal (putAll v l 0 a0) w := by
   intro listed v w hl hr hE hR
   have h2 := allDone listed hl hr q hql
   obtain ⟨hB, hE⟩ := hE
   rcases hE with ⟨-, h, -⟩ | ⟨-, h, -⟩ | ⟨-, -, h⟩
   ·rw [h2] at h; cases h
   ·rw [h2] at h; cases h
   ·exact fin v w hB h (allOf_mk l 0 fun i hi => by rw [Nat.zero_add]; exact hR i (allDone listed hl hr i hi))
  intro fuel
  induction fuel with
  | zero =>
   intro listed v w hl hf hE hR
   have hnil : Region.ready .any l.toArray listed = [] := by
    apply List.eq_nil_iff_forall_not_mem.2
    intro i hi
    rw [hwait] at hi
    obtain ⟨hil, hu, -⟩ := hi
    have he : listed.toList.filter (· == false) = [] := List.eq_nil_of_length_eq_zero (by omega)
    rw [List.filter_eq_nil_iff] at he
    have hil' : i < listed.size := by omega
    have := he listed[i] (by simp)
    rw [Array.getD_eq_getD_getElem?, Array.getElem?_eq_getElem hil'] at hu
    simp only [Option.getD_some] at hu
    simp [hu] at this
   exact ⟨hnil, finish listed v w hl hnil hE hR⟩
  | succ fuel ih =>
   intro listed v w hl hf hE hR
   refine ⟨fun hr => finish listed v w hl hr hE hR, fun i hi => ?_⟩
   obtain ⟨hil, hu, hdep⟩ := (hwait i listed).1 hi
   have hiu : listed.getD i false = false := by
    rw [Array.getD_eq_getD_getElem?, Array.getElem?_eq_getElem (by omega)] at hu ⊢
    simpa using hu
   have ho : l[i]? = some l[i] := List.getElem?_eq_getElem hil
   have hst := allStepsPh_get l 0 steps i l[i] ho
   rw [Nat.zero_add] at hst
   obtain ⟨hB, hJ⟩ := hE
   have hst := hst v w hB (by
    rintro rfl
    rcases hJ with ⟨-, -, h⟩ | ⟨h, -⟩ | ⟨h, -⟩
    ·exact h
    ·rw [hiu] at h; cases h
    ·rw [hiu] at h; cases h) (by
    rintro rfl
    have hp := hdep _ ho p (hwq' _ ho)
    have hp' : listed.getD p false = true := hp
    rcases hJ with ⟨h, -, -⟩ | ⟨-, -, h⟩ | ⟨-, h, -⟩
    ·rw [hp'] at h; cases h
    ·exact h
    ·rw [hiu] at h; cases h) (deps_mk _ fun j hj => hR j (hdep _ ho j hj))
   have next : ∀ x w', J (listed.setIfInBounds i true) w' → R i x w' → wpAny P .any l.toArray Q fuel (listed.setIfInBounds i true) ((putAll v l 0 a0).put l[i].dst x) w' := by
    intro x w' hE' hx
    rw [putAll_put v x l 0 i a0 l[i] hnd ho]
    refine ih (listed.setIfInBounds i true) _ w' (by simpa using hl) ?_ hE' ?_
    ·have hil' : i < listed.size := by omega
     have hfalse : listed[i] = false := by
      rw [Array.getD_eq_getD_getElem?, Array.getElem?_eq_getElem hil'] at hu
      simpa using hu
     have e1 : listed.toList = listed.toList.take i ++ false :: listed.toList.drop (i + 1) := by
      rw [← hfalse]
      conv => lhs; rw [← List.take_append_drop i listed.toList]
      congr 1
      rw [List.drop_eq_getElem_cons (by simpa using hil')]
      simp
     have e2 : (listed.setIfInBounds i true).toList = listed.toList.take i ++ true :: listed.toList.drop (i + 1) := by
      rw [Array.toList_setIfInBounds, List.set_eq_take_append_cons_drop, if_pos (by simpa using hil')]
     rw [e1] at hf
     rw [e2]
     simp only [List.filter_append, List.filter_cons, List.length_append] at hf ⊢
     simp at hf ⊢
     omega
    ·intro j hj
     by_cases e : j = 0 + i
     ·rw [if_pos e]
      have : j = i := by omega
      subst this
      exact hx
     ·rw [if_neg e]
      have hne : i ≠ j := by omega
      refine still j _ w w' (hR j ?_)
      rw [Array.getD_eq_getD_getElem?, Array.getElem?_setIfInBounds_ne hne, ← Array.getD_eq_getD_getElem?] at hj
      exact hj
   have hself : (listed.setIfInBounds i true).getD i false = true := by
    rw [Array.getD_eq_getD_getElem?, Array.getElem?_setIfInBounds, if_pos rfl, if_pos (by omega)]; rfl
   have hother : ∀ j, i ≠ j → (listed.setIfInBounds i true).getD j false = listed.getD j false := by
    intro j hne
    rw [Array.getD_eq_getD_getElem?, Array.getElem?_setIfInBounds_ne hne, ← Array.getD_eq_getD_getElem?]
   have hJ1 : ∀ w', (if i = p then B w' ∧ I1 w' else if i = q then B w' ∧ I2 w' else Stay w w') → J (listed.setIfInBounds i true) w' := by
    intro w' h
    by_cases e1 : i = p
    ·rw [if_pos e1] at h
     refine ⟨h.1, .inr (.inl ⟨by rw [← e1]; exact hself, ?_, h.2⟩)⟩
     rw [hother q (by omega)]
     rcases hJ with ⟨-, h, -⟩ | ⟨h, -, -⟩ | ⟨h, -, -⟩
     ·exact h
     ·rw [← e1, hiu] at h; cases h
     ·rw [← e1, hiu] at h; cases h
    ·rw [if_neg e1] at h
     by_cases e2 : i = q
     ·rw [if_pos e2] at h
      refine ⟨h.1, .inr (.inr ⟨?_, by rw [← e2]; exact hself, h.2⟩)⟩
      rw [hother p e1]
      subst e2
      exact hdep _ ho p (hwq' _ ho)
     ·rw [if_neg e2] at h
      have h : w' = w := h
      subst h
      refine ⟨hB, ?_⟩
      rw [hother p e1, hother q e2]
      exact hJ
   unfold wpOp
   simp only [List.getElem?_toArray, ho]
   split
   ·rename_i hw
    rw [if_pos hw] at hst
    refine .inl ?_
    have h1 := Oper.wp_mono (K' := wpAny P .any l.toArray Q fuel (listed.setIfInBounds i true)) (h := fun a' w' ⟨x, e, hE', hx⟩ => by rw [e]; exact next x w' (hJ1 w' hE') hx) hst
    exact wp_post h1
   ·rename_i hw
    rw [if_neg hw] at hst
    obtain ⟨h1, h2, h3⟩ := hst
    exact next undef w (hJ1 w (by rw [if_neg h2, if_neg h3]; exact rfl)) h1
 refine wp_region_any hm ?_
 have hE : Ext w0 { w0 with drawn := w0.drawn + 1 } := ⟨rfl, rfl, rfl, Nat.le_refl _, fun _ _ => rfl⟩
 let v0 : Nat → Value := fun i => match l[i]? with | some o => (match o.dst with | some d => a0.tmps.getD d undef | none => undef) | none => undef
 have hself : putAll v0 l 0 a0 = a0 := putAll_self v0 l 0 a0 fun i o d ho hd => by
  have hdl : d < a0.tmps.size := by
   have := List.all_eq_true.1 hsz d (List.mem_filterMap.2 ⟨o, List.mem_of_getElem? ho, hd⟩)
   simpa using this
  simp only [v0, Nat.zero_add, ho, hd]
  rw [Array.getD_eq_getD_getElem?, Array.getElem?_eq_getElem hdl]
  rfl
 have hnone : ∀ i, (Array.replicate l.toArray.size false).getD i false = true → False := by
  intro i hi
  rw [Array.getD_eq_getD_getElem?, Array.getElem?_replicate] at hi
  split at hi <;> simp at hi
 have hno : ∀ i, (Array.replicate l.toArray.size false).getD i false = false := by
  intro i
  cases h : (Array.replicate l.toArray.size false).getD i false with
  | false => rfl
  | true => exact (hnone i h).elim
 obtain ⟨hB0, hI0⟩ := start _ hE
 have := main l.toArray.size (Array.replicate l.toArray.size false) v0 { w0 with drawn := w0.drawn + 1 } (by simp) (by simp) ⟨hB0, .inl ⟨hno p, hno q, hI0⟩⟩ (fun i hi => (hnone i hi).elim)
 rw [hself] at this
 exact this
theorem wp_drawn_ph {P : Program} {id : Nat} {ops : List Oper} (p q : Nat) (B I0 I1 I2 : World → Prop) {Q : Exit → Act → World → Prop} {a0 : Act} {w0 : World} (Rs : List SPred)
  (hm : P.follows .mixedOrders = true) (hok : regionOk ops a0.tmps.size = true) (hph : phaseOk ops p q = true)
  (start : ∀ w, Ext w0 w → B w ∧ I0 w)
  (steps : allStepsPh P ops.toArray a0 B I0 I1 I2 (knowing Rs) p q ops 0) (still : ∀ i v w w', knowing Rs i v w → knowing Rs i v w')
  (fin : ∀ (v : Nat → Value) (w : World), B w → I2 w → allOf (knowing Rs) v w ops 0 → Q .normal (putAll v ops 0 a0) w) :
  (Code.region id ops.toArray true).wp P Q a0 w0 :=
 wp_region_ph (knowing Rs) p q B I0 I1 I2 hm hok hph start still steps fin
end Go.Proofs.YtakebdeldndaaaaGreatDoor
/- Nothing that was there has changed but two blocks. -/
namespace Go.Proofs.YtakebdeldndaaaaGreatDoor
open Go Go.RowKit
set_option linter.unusedVariables false
structure Kept2 (d m : Nat) (w w' : World) : Prop where
 os : w'.os = w.os
 tape : w'.tape = w.tape
 output : w'.output = w.output
 size : w.heap.size ≤ w'.heap.size
 block : ∀ k, k < w.heap.size → k ≠ d → k ≠ m → w'.heap[k]? = w.heap[k]?
theorem Kept2.refl (d m : Nat) (w : World) : Kept2 d m w w := ⟨rfl, rfl, rfl, Nat.le_refl _, fun _ _ _ _ => rfl⟩
theorem Kept2.trans {d m : Nat} {a b c : World} (h : Kept2 d m a b) (k : Kept2 d m b c) : Kept2 d m a c :=
 ⟨k.os.trans h.os, k.tape.trans h.tape, k.output.trans h.output, Nat.le_trans h.size k.size, fun i hi h1 h2 => (k.block i (Nat.lt_of_lt_of_le hi h.size) h1 h2).trans (h.block i hi h1 h2)⟩
theorem Kept2.of_ext {d m : Nat} {a b : World} (h : Ext a b) : Kept2 d m a b := ⟨h.os, h.tape, h.output, h.size, fun k hk _ _ => h.block k hk⟩
theorem Kept2.of_grown {d m g : Nat} {a b : World} (h : a.grownBy b (some g)) (hg : g = d ∨ g = m) : Kept2 d m a b :=
 ⟨h.os, h.tape, h.output, h.size, fun k hk h1 h2 => h.block k hk (fun e => by simp only [Option.some.injEq] at e; rcases hg with rfl | rfl <;> contradiction)⟩
theorem Kept2.below {d m B : Nat} {w w' : World} (h : Kept2 d m w w') (hd : B ≤ d) (hm : B ≤ m) (hB : B ≤ w.heap.size) : Below B w w' :=
 ⟨h.os, h.tape, h.output, h.size, fun k hk => h.block k (by omega) (by omega) (by omega)⟩
theorem cell_below {w w' : World} {p : Addr} {v : Value} (h : Ext w w') (hc : w.cell? p = some v) : w'.cell? p = some v := (h.cell (World.block_lt_of_cell? w p hc)).trans hc
end Go.Proofs.YtakebdeldndaaaaGreatDoor
