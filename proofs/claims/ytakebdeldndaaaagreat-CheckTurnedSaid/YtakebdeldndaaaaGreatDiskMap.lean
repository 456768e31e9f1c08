/- Maps of a string's kind whose values are held as they lie: sorted lists of names and values. -/
import Derived.Test.YtakebdeldndaaaaGreatFound
import Derived.Maps.OwnSet
import Derived.Maps.RangeWalk
import Derived.StringKeys
namespace Go.Proofs.YtakebdeldndaaaaGreat
open Go Go.RowKit
set_option linter.unusedSimpArgs false
set_option linter.unusedVariables false

/-- A map's content: names and values, by rising names. -/
abbrev Raw := List (List UInt8 × Value)
/-- A file's value's shape. -/
def fileShape : Value → Bool
  | .agg cs => match cs.toList with
    | [.slice _ _ _, .int .i64 _] => true
    | _ => false
  | _ => false
theorem fileShape_inv {v : Value} (h : fileShape v = true) : ∃ A n c sf, v = .agg #[.slice A n c, .int .i64 sf] := by
  unfold fileShape at h
  split at h
  · rename_i cs
    split at h
    · rename_i A n c sf e
      exact ⟨A, n, c, sf, by rw [← e]⟩
    · cases h
  · cases h
def rawE : Value → Option (DataW Value × List MemPlace) := fun v => if fileShape v then some (.held v, []) else none
theorem rawE_mk {v : Value} (h : fileShape v = true) : rawE v = some (.held v, []) := by unfold rawE; rw [if_pos h]
theorem rawE_inv {v : Value} {y : DataW Value × List MemPlace} (h : rawE v = some y) : fileShape v = true ∧ y = (.held v, []) := by
  unfold rawE at h
  split at h
  · rename_i hs; exact ⟨hs, (Option.some.inj h).symm⟩
  · cases h
def rawL (G : Raw) : List (Lit × DataW Value) := G.map fun p => (.string p.1, .held p.2)
def insL (x : List UInt8 × Value) : Raw → Raw
  | [] => [x]
  | y :: r => if bytesBefore x.1 y.1 then x :: y :: r else y :: insL x r
def delL (nm : List UInt8) (G : Raw) : Raw := G.filter fun p => !(p.1 == nm)
def putL (nm : List UInt8) (v : Value) (G : Raw) : Raw := insL (nm, v) (delL nm G)
def atL (G : Raw) (nm : List UInt8) : Option Value := (G.find? (·.1 == nm)).map (·.2)
theorem rawL_ins (x : List UInt8 × Value) : ∀ G, DataW.insert (Lit.string x.1, DataW.held x.2) (rawL G) = rawL (insL x G)
  | [] => rfl
  | y :: r => by
    show DataW.insert _ ((Lit.string y.1, DataW.held y.2) :: rawL r) = _
    unfold DataW.insert insL
    show (if bytesBefore x.1 y.1 = true then _ else _) = _
    split
    · rfl
    · rw [rawL_ins x r]; rfl
theorem rawL_filter (nm : List UInt8) : ∀ G : Raw, (rawL G).filter (fun p => !p.1.sameKey (.string nm)) = rawL (delL nm G)
  | [] => rfl
  | y :: r => by
    show List.filter _ ((Lit.string y.1, DataW.held y.2) :: rawL r) = _
    unfold delL
    rw [List.filter_cons, List.filter_cons]
    have e : (!(Lit.sameKey (.string y.1) (.string nm))) = !(y.1 == nm) := rfl
    rw [e, rawL_filter nm r]
    split <;> rfl
theorem rawL_put (nm : List UInt8) (v : Value) (G : Raw) : (DataW.map (rawL G)).put (.string nm) (.held v) = .map (rawL (putL nm v G)) := by
  unfold DataW.put putL
  simp only
  rw [rawL_filter, rawL_ins (nm, v)]
theorem rawL_del (nm : List UInt8) (G : Raw) : (DataW.map (rawL G)).del (.string nm) = .map (rawL (delL nm G)) := by
  unfold DataW.del
  simp only
  rw [rawL_filter]
theorem rawL_find (nm : List UInt8) : ∀ G : Raw, (rawL G).find? (fun p => p.1.sameKey (.string nm)) = (G.find? (·.1 == nm)).map fun p => (.string p.1, .held p.2)
  | [] => rfl
  | y :: r => by
    show List.find? _ ((Lit.string y.1, DataW.held y.2) :: rawL r) = _
    rw [List.find?_cons, List.find?_cons, rawL_find nm r]
    have e : (Lit.sameKey (.string y.1) (.string nm)) = (y.1 == nm) := rfl
    rw [e]
    cases (y.1 == nm) <;> rfl
theorem rawL_at (nm : List UInt8) (G : Raw) (z : Value) : (DataW.map (rawL G)).atKey (.string nm) (.held z) = .held ((atL G nm).getD z) := by
  unfold DataW.atKey atL
  simp only
  rw [rawL_find]
  cases G.find? (·.1 == nm) <;> rfl
theorem rawL_has (nm : List UInt8) (G : Raw) : Maps.has (DataW.map (rawL G)) (.string nm) = (atL G nm).isSome := by
  unfold Maps.has atL
  simp only
  induction G with
  | nil => rfl
  | cons y r ih =>
    show List.any ((Lit.string y.1, DataW.held y.2) :: rawL r) _ = _
    rw [List.any_cons, List.find?_cons]
    have e : (Lit.sameKey (.string y.1) (.string nm)) = (y.1 == nm) := rfl
    rw [e, ih]
    cases (y.1 == nm) <;> rfl
theorem rawL_length (G : Raw) : (rawL G).length = G.length := by simp [rawL]

/-- Block m is a map with that content. -/
def MapAt (w : World) (m : Nat) (G : Raw) : Prop := w.ownsMap Tryz.prog 9 rawE m G.length (.map (rawL G))
theorem MapAt.of {w : World} {m n : Nat} {G : Raw} (h : w.ownsMap Tryz.prog 9 rawE m n (.map (rawL G))) : MapAt w m G := by
  obtain ⟨es, clock, h1, h2, h3, h4⟩ := h
  refine ⟨es, clock, h1, h2, ?_, h4⟩
  have := congrArg (fun d : DataW Value => match d with | .map l => l.length | _ => 0) h4
  simp only [rawL_length] at this
  rw [this]
  have e2 : ((es.toList.map (WideElems.rg Tryz.prog 9 rawE)).foldr DataW.insert []).length = es.size := by rw [length_sorted]; simp
  omega
theorem MapAt.made (w : World) : MapAt (w.alloc (.map #[] 0)) w.heap.size [] := World.ownsMap_made w _ _ _
theorem MapAt.lt {w : World} {m : Nat} {G : Raw} (h : MapAt w m G) : m < w.heap.size := World.ownsMap.lt h
theorem key_str (nm : List UInt8) (h : nm.length ≤ 9223372036854775807) : keyOf Tryz.prog 9 (.string (str nm)) = some (.string nm) := by
  have := WideMaps.keyOf_string_mk (P := Tryz.prog) (k := 9) Tryz.underlying9 (s := str nm) (by rw [str_size]; simp only [maxLen]; omega)
  exact this
theorem keyedS : Maps.Keyed Tryz.prog 9 := Maps.string_keyed Tryz.underlying9
/-- The value of no file. -/
def zfile : Value := .agg #[.slice none 0 0, .int .i64 0]
theorem zero_file : ∀ w, (zeroValue 126).run Tryz.prog w = .ok zfile w := by
  exact (zero_of_info (show (Tryz.prog.info? 126).map (fun i => (i.zero, i.size)) = some (some zfile, 2) by kernel_rfl)).1
theorem MapAt.look {w : World} {m : Nat} {G : Raw} (h : MapAt w m G) (nm : List UInt8) (hn : nm.length ≤ 9223372036854775807) :
    (Instr.lookup 84 (.map (some m)) (.string (str nm)) true).run Tryz.prog w = .ok (.tuple #[(atL G nm).getD zfile, .bool (atL G nm).isSome]) w := by
  obtain ⟨v, ps, h1, h2⟩ := World.ownsMap.look_ok h keyedS Tryz.underlying84 (zero_file w) (zd := .held zfile) (zp := []) rfl (key_str nm hn)
  rw [rawL_has] at h1
  rw [rawL_at] at h2
  have h3 := (rawE_inv h2).2
  simp only [Prod.mk.injEq, DataW.held.injEq] at h3
  rw [h1, h3.1]
theorem MapAt.shape {w : World} {m : Nat} {G : Raw} (h : MapAt w m G) (nm : List UInt8) (hn : nm.length ≤ 9223372036854775807) : fileShape ((atL G nm).getD zfile) = true := by
  obtain ⟨v, ps, h1, h2⟩ := World.ownsMap.look_ok h keyedS Tryz.underlying84 (zero_file w) (zd := .held zfile) (zp := []) rfl (key_str nm hn)
  rw [rawL_at] at h2
  have h3 := rawE_inv h2
  have h4 := h3.2
  simp only [Prod.mk.injEq, DataW.held.injEq] at h4
  rw [h4.1]; exact h3.1
theorem MapAt.store {w : World} {m : Nat} {G : Raw} (h : MapAt w m G) (nm : List UInt8) (v : Value) (hv : fileShape v = true) (hn : nm.length ≤ 9223372036854775807) (hG : G.length < 1000000) :
    ∃ w', (Instr.mapUpdate 84 (.map (some m)) (.string (str nm)) v).run Tryz.prog w = .ok () w' ∧ MapAt w' m (putL nm v G) ∧ w.mapTurned w' m := by
  obtain ⟨w', h1, h2, h3⟩ := World.ownsMap.store h keyedS Tryz.underlying84 (by simp only [maxLen]; omega) (key_str nm hn) (val := v) (d := .held v) (ps := []) (rawE_mk hv)
  rw [rawL_put] at h2
  exact ⟨w', h1, .of h2, h3⟩
theorem MapAt.drop {w : World} {m : Nat} {G : Raw} (h : MapAt w m G) (nm : List UInt8) (hn : nm.length ≤ 9223372036854775807) (ty : TypeId) :
    ∃ w', (Builtin.delete_ #[84, 9] ty #[.map (some m), .string (str nm)]).run Tryz.prog w = .ok (.tuple #[]) w' ∧ MapAt w' m (delL nm G) ∧ w.mapTurned w' m := by
  obtain ⟨w', h1, h2, h3⟩ := World.ownsMap.drop h keyedS Tryz.underlying84 (key_str nm hn) ty
  rw [rawL_del] at h2
  exact ⟨w', h1, .of h2, h3⟩
theorem MapAt.len {w : World} {m : Nat} {G : Raw} (h : MapAt w m G) (ty : TypeId) : (Builtin.len_ #[84] ty #[.map (some m)]).run Tryz.prog w = .ok (.int .i64 (G.length : Int)) w := by
  have := World.ownsMap.len h Tryz.underlying84 ty
  rw [this]
  show Result.ok (Value.int .i64 ((rawL G).length : Int)) w = _
  rw [rawL_length]
theorem MapAt.kept {w w' : World} {m : Nat} {G : Raw} {row : Option Nat} (h : MapAt w m G) (hg : w.grownBy w' row) (hne : some m ≠ row) : MapAt w' m G := World.ownsMap.kept h hg hne
end Go.Proofs.YtakebdeldndaaaaGreat
