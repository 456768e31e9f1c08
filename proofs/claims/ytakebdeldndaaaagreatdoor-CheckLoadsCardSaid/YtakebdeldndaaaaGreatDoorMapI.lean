/- Maps of a string's kind whose values are ints: rising lists of names and numbers. -/
import Derived.Test.YtakebdeldndaaaaGreatDoorFound
import Derived.Test.YtakebdeldndaaaaGreatDoorEvx
import Derived.Maps.OwnSet
import Derived.Maps.RangeWalk
import Derived.StringKeys
namespace Go.Proofs.YtakebdeldndaaaaGreatDoor
open Go Go.RowKit
set_option linter.unusedSimpArgs false
set_option linter.unusedVariables false
abbrev Ents := List (List UInt8 × Int)
def litL (D : Ents) : List (Lit × DataW Unit) := D.map fun p => (.string p.1, .lit (.int .i64 p.2))
def insI (x : List UInt8 × Int) : Ents → Ents
 | [] => [x]
 | y :: r => if bytesBefore x.1 y.1 then x :: y :: r else y :: insI x r
def delI (nm : List UInt8) (D : Ents) : Ents := D.filter fun p => !(p.1 == nm)
def putI (nm : List UInt8) (v : Int) (D : Ents) : Ents := insI (nm, v) (delI nm D)
def atI (D : Ents) (nm : List UInt8) : Int := ((D.find? (·.1 == nm)).map (·.2)).getD 0
theorem litL_ins (x : List UInt8 × Int) : ∀ D, DataW.insert (Lit.string x.1, DataW.lit (.int .i64 x.2)) (litL D) = litL (insI x D)
 | [] => rfl
 | y :: r => by
  show DataW.insert _ ((Lit.string y.1, DataW.lit (.int .i64 y.2)) :: litL r) = _
  unfold DataW.insert insI
  show (if bytesBefore x.1 y.1 = true then _ else _) = _
  split
  ·rfl
  ·rw [litL_ins x r]; rfl
theorem litL_filter (nm : List UInt8) : ∀ D : Ents, (litL D).filter (fun p => !p.1.sameKey (.string nm)) = litL (delI nm D)
 | [] => rfl
 | y :: r => by
  show List.filter _ ((Lit.string y.1, DataW.lit (.int .i64 y.2)) :: litL r) = _
  unfold delI
  rw [List.filter_cons, List.filter_cons]
  have e : (!(Lit.sameKey (.string y.1) (.string nm))) = !(y.1 == nm) := rfl
  rw [e, litL_filter nm r]
  split <;> rfl
theorem litL_put (nm : List UInt8) (v : Int) (D : Ents) : (DataW.map (litL D)).put (.string nm) (.lit (.int .i64 v)) = .map (litL (putI nm v D)) := by
 unfold DataW.put putI
 simp only
 rw [litL_filter, litL_ins (nm, v)]
theorem litL_find (nm : List UInt8) : ∀ D : Ents, (litL D).find? (fun p => p.1.sameKey (.string nm)) = (D.find? (·.1 == nm)).map fun p => (.string p.1, .lit (.int .i64 p.2))
 | [] => rfl
 | y :: r => by
  show List.find? _ ((Lit.string y.1, DataW.lit (.int .i64 y.2)) :: litL r) = _
  rw [List.find?_cons, List.find?_cons, litL_find nm r]
  have e : (Lit.sameKey (.string y.1) (.string nm)) = (y.1 == nm) := rfl
  rw [e]
  cases (y.1 == nm) <;> rfl
theorem litL_at (nm : List UInt8) (D : Ents) : (DataW.map (litL D)).atKey (.string nm) (.lit (.int .i64 0)) = .lit (.int .i64 (atI D nm)) := by
 unfold DataW.atKey atI
 simp only
 rw [litL_find]
 cases D.find? (·.1 == nm) <;> rfl
theorem litL_length (D : Ents) : (litL D).length = D.length := by simp [litL]
def UpI (D : Ents) : Prop := D.Pairwise fun p q => bytesBefore p.1 q.1 = true
def MapI (w : World) (m : Nat) (D : Ents) : Prop := w.ownsMap Tryz.prog 9 (plainElem Tryz.prog 3) m D.length (.map (litL D))
theorem MapI.of {w : World} {m n : Nat} {D : Ents} (h : w.ownsMap Tryz.prog 9 (plainElem Tryz.prog 3) m n (.map (litL D))) : MapI w m D := by
 obtain ⟨es, clock, h1, h2, h3, h4⟩ := h
 refine ⟨es, clock, h1, h2, ?_, h4⟩
 have := congrArg (fun d : DataW Unit => match d with | .map l => l.length | _ => 0) h4
 simp only [litL_length] at this
 rw [this]
 have e2 : ((es.toList.map (WideElems.rg Tryz.prog 9 (plainElem (H := Unit) Tryz.prog 3))).foldr DataW.insert []).length = es.size := by rw [length_sorted]; simp
 omega
theorem MapI.made (w : World) : MapI (w.alloc (.map #[] 0)) w.heap.size [] := World.ownsMap_made w _ _ _
theorem MapI.lt {w : World} {m : Nat} {D : Ents} (h : MapI w m D) : m < w.heap.size := World.ownsMap.lt h
theorem keyI (nm : List UInt8) (h : nm.length ≤ 9223372036854775807) : keyOf Tryz.prog 9 (.string (str nm)) = some (.string nm) := by
 have := WideMaps.keyOf_string_mk (P := Tryz.prog) (k := 9) Tryz.underlying9 (s := str nm) (by rw [str_size]; simp only [maxLen]; omega)
 exact this
theorem keyedI : Maps.Keyed Tryz.prog 9 := Maps.string_keyed Tryz.underlying9
theorem zero_int : ∀ w, (zeroValue 3).run Tryz.prog w = .ok (.int .i64 0) w := Tryz.zeroValue3
theorem wf_range {n : Int} (h : (Lit.int .i64 n).wf = true) : -9223372036854775808 ≤ n ∧ n ≤ 9223372036854775807 := by
 simp [Lit.wf, IntKind.min, IntKind.max, IntKind.signed, IntKind.bits] at h
 omega
theorem wf_mk {n : Int} (h : -9223372036854775808 ≤ n ∧ n ≤ 9223372036854775807) : (Lit.int .i64 n).wf = true := by
 simp [Lit.wf, IntKind.min, IntKind.max, IntKind.signed, IntKind.bits]
 omega
theorem MapI.look {w : World} {m : Nat} {D : Ents} (h : MapI w m D) (nm : List UInt8) (hn : nm.length ≤ 9223372036854775807) :
  (Instr.lookup 186 (.map (some m)) (.string (str nm)) false).run Tryz.prog w = .ok (.int .i64 (atI D nm)) w ∧ (-9223372036854775808 ≤ atI D nm ∧ atI D nm ≤ 9223372036854775807) := by
 obtain ⟨c, h1, h2, h3⟩ := World.ownsMap.lookup_int h keyedI Tryz.underlying186 Tryz.underlying3 (zero_int w) (keyI nm hn)
 rw [litL_at] at h2
 simp only [DataW.lit.injEq, Lit.int.injEq, true_and] at h2
 rw [h2]
 exact ⟨h1, wf_range h3⟩
theorem MapI.store {w : World} {m : Nat} {D : Ents} (h : MapI w m D) (nm : List UInt8) (v : Int) (hv : -9223372036854775808 ≤ v ∧ v ≤ 9223372036854775807) (hn : nm.length ≤ 9223372036854775807) (hD : D.length < 1000000) :
  ∃ w', (Instr.mapUpdate 186 (.map (some m)) (.string (str nm)) (.int .i64 v)).run Tryz.prog w = .ok () w' ∧ MapI w' m (putI nm v D) ∧ w.mapTurned w' m := by
 obtain ⟨w', h1, h2, h3⟩ := World.ownsMap.store h keyedI Tryz.underlying186 (by simp only [maxLen]; omega) (keyI nm hn) (val := .int .i64 v) (d := .lit (.int .i64 v)) (ps := []) (plainElem_int Tryz.underlying3 (wf_mk hv))
 rw [litL_put] at h2
 exact ⟨w', h1, .of h2, h3⟩
theorem MapI.ext {w w' : World} {m : Nat} {D : Ents} (h : MapI w m D) (hE : Ext w w') : MapI w' m D := World.ownsMap.kept (row := none) h ⟨hE.os, hE.tape, hE.output, hE.size, fun i hi _ => hE.block i hi⟩ (by simp)
theorem MapI.keep {w w' : World} {m : Nat} {D : Ents} (h : MapI w m D) (hb : w'.heap[m]? = w.heap[m]?) : MapI w' m D := by
 obtain ⟨es, clock, h1, h2, h3, h4⟩ := h
 exact ⟨es, clock, hb.trans h1, h2, h3, h4⟩
theorem upI_of_rising : ∀ (D : Ents), DataW.rising (litL D) = true → UpI D
 | [], _ => .nil
 | [a], _ => List.pairwise_singleton _ _
 | a :: b :: D, h => by
  have h' : (bytesBefore a.1 b.1 && DataW.rising (litL (b :: D))) = true := h
  rw [Bool.and_eq_true] at h'
  have ih := upI_of_rising (b :: D) h'.2
  refine List.pairwise_cons.2 ⟨fun c hc => ?_, ih⟩
  rcases List.mem_cons.1 hc with rfl | hc
  ·exact h'.1
  ·exact tb_trans h'.1 ((List.pairwise_cons.1 ih).1 c hc)
theorem MapI.up {w : World} {m : Nat} {D : Ents} (h : MapI w m D) : UpI D := by
 obtain ⟨es, clock, -, F, -, h4⟩ := h
 have := Maps.fit_rising keyedI F
 have e : litL D = (es.toList.map (WideElems.rg Tryz.prog 9 (plainElem (H := Unit) Tryz.prog 3))).foldr DataW.insert [] := by
  have := congrArg (fun d : DataW Unit => match d with | .map l => l | _ => []) h4
  exact this
 rw [← e] at this
 exact upI_of_rising D this
set_option maxRecDepth 100000 in
theorem MapI.short {w : World} {m : Nat} {D : Ents} (h : MapI w m D) : ∀ p ∈ D, p.1.length ≤ 9223372036854775807 := by
 intro p hp
 obtain ⟨es, clock, -, F, -, h4⟩ := h
 have h4' : litL D = (es.toList.map (WideElems.rg Tryz.prog 9 (plainElem (H := Unit) Tryz.prog 3))).foldr DataW.insert [] := by
  have := congrArg (fun d : DataW Unit => match d with | .map l => l | _ => []) h4
  exact this
 have hm : ((Lit.string p.1, DataW.lit (.int .i64 p.2)) : Lit × DataW Unit) ∈ litL D := List.mem_map.2 ⟨p, hp, rfl⟩
 rw [h4'] at hm
 obtain ⟨x, hx, e⟩ := List.mem_map.1 ((WideShapes.sorted_perm _).mem_iff.1 hm)
 obtain ⟨y, hy⟩ := F.reads x hx
 rw [WideElems.rg_of hy] at e
 have hk := WideElems.rd_key hy
 rw [e] at hk
 unfold keyOf mapKey at hk
 rw [Tryz.underlying9] at hk
 simp only at hk
 split at hk <;> simp at hk
 obtain ⟨h1, h2⟩ := hk
 rw [← h2]
 simp only [maxLen] at h1
 simpa using h1
/-! ### What the lists say -/
theorem length_insI (x : List UInt8 × Int) : ∀ D : Ents, (insI x D).length = D.length + 1
 | [] => rfl
 | y :: r => by
  unfold insI
  split
  ·rfl
  ·rw [List.length_cons, length_insI x r, List.length_cons]
theorem length_delI (nm : List UInt8) (D : Ents) : (delI nm D).length ≤ D.length := List.length_filter_le _ _
theorem length_putI (nm : List UInt8) (v : Int) (D : Ents) : (putI nm v D).length ≤ D.length + 1 := by
 unfold putI
 rw [length_insI]
 have := length_delI nm D
 omega
end Go.Proofs.YtakebdeldndaaaaGreatDoor
