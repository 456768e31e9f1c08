/- Several texts of this claim's, one behind the other. -/
import Derived.Test.YtakebdeldndaaaaGreatDoorFn1
import Derived.Test.YtakebdeldndaaaaGreatDoorFound
import Derived.Test.YtakebdeldndaaaaGreatDoorNm
/- Events, clauses, queries, entries: how they lie in memory. -/
namespace Go.Proofs.YtakebdeldndaaaaGreatDoor
open Go Go.RowKit
set_option linter.unusedSimpArgs false
set_option linter.unusedVariables false
abbrev Str := List UInt8
structure EvV where
 st : Str
 ty : Str
 tags : List Str
 fields : List (Str × Int)
structure ClV where
 tags : List Str
 types : List Str
structure DefV where
 kind : Int
 field : Str
 q : List ClV
def RField : Rep (Str × Int) := Rep.pair Rep.txt Rep.i64
def RTags : Rep (List Str) := Rep.slice Rep.txt
def RCl : Rep ClV := Rep.of (Rep.pair RTags RTags) fun c => (c.tags, c.types)
def RCls : Rep (List ClV) := Rep.slice RCl
def REnt : Rep (Str × Int) := RField
section
variable {w w' : World} {K : Nat → Prop}
theorem slice_rel {α : Type} {R : Rep α} {xs : List α} {cs : List Value} (h : (Rep.slice R).rel w K xs cs) : ∃ A c, cs = [.slice A xs.length c] ∧ SlR R w K A xs.length c xs := by
 obtain ⟨A, c, ds, e, hc, hm, hr, hk⟩ := h
 exact ⟨A, c, e, rfl, hc, hm, ds, hr, hk⟩
theorem slice_mk {α : Type} {R : Rep α} {xs : List α} {A : Option Addr} {n c : Nat} (h : SlR R w K A n c xs) : (Rep.slice R).rel w K xs [.slice A n c] := by
 obtain ⟨rfl, hc, hm, ds, hr, hk⟩ := h
 exact ⟨A, c, ds, rfl, hc, hm, hr, hk⟩
theorem cl_rel {c : ClV} {cs : List Value} (h : RCl.rel w K c cs) : ∃ A a B b, cs = [.slice A c.tags.length a, .slice B c.types.length b] ∧ SlR Rep.txt w K A c.tags.length a c.tags ∧ SlR Rep.txt w K B c.types.length b c.types := by
 obtain ⟨t, f, rfl, ht, hf⟩ := h
 obtain ⟨A, a, rfl, hA⟩ := slice_rel ht
 obtain ⟨B, b, rfl, hB⟩ := slice_rel hf
 exact ⟨A, a, B, b, rfl, hA, hB⟩
theorem cl_mk {c : ClV} {A B : Option Addr} {n a m b : Nat} (h1 : SlR Rep.txt w K A n a c.tags) (h2 : SlR Rep.txt w K B m b c.types) : RCl.rel w K c [.slice A n a, .slice B m b] := ⟨_, _, rfl, slice_mk h1, slice_mk h2⟩
theorem field_rel {f : Str × Int} {cs : List Value} (h : RField.rel w K f cs) : cs = [.string (str f.1), .int .i64 f.2] ∧ Short f.1 := by
 obtain ⟨a, b, rfl, ⟨ha, hs⟩, hb⟩ := h
 refine ⟨?_, hs⟩
 rw [show a = [strV f.1] from ha, show b = [.int .i64 f.2] from hb]; rfl
theorem field_mk {f : Str × Int} (h : Short f.1) : RField.rel w K f [.string (str f.1), .int .i64 f.2] := ⟨[strV f.1], _, rfl, ⟨rfl, h⟩, rfl⟩
theorem field_at {A : Option Addr} {n c : Nat} {xs : List (Str × Int)} (h : SlR RField w K A n c xs) (i : Nat) (hi : i < xs.length) :
  ∃ b o, A = some ⟨b, o, none⟩ ∧ K b ∧ w.cell? ⟨b, o + i * 2, none⟩ = some (.string (str (xs[i]'hi).1)) ∧ w.cell? ⟨b, o + i * 2 + 1, none⟩ = some (.int .i64 (xs[i]'hi).2) ∧ Short (xs[i]'hi).1 := by
 obtain ⟨b, o, d, e, hk, hd, hg⟩ := h.get (by decide) i hi
 obtain ⟨rfl, hs⟩ := field_rel hd
 have h0 := hg 0 _ rfl
 have h1 := hg 1 _ rfl
 simp only [show RField.size = 2 from rfl, ← Nat.add_assoc, Nat.add_zero] at h0 h1
 exact ⟨b, o, e, hk, h0, h1, hs⟩
theorem cl_at {A : Option Addr} {n c : Nat} {xs : List ClV} (h : SlR RCl w K A n c xs) (i : Nat) (hi : i < xs.length) :
  ∃ b o T a U u, A = some ⟨b, o, none⟩ ∧ K b ∧ w.cell? ⟨b, o + i * 2, none⟩ = some (.slice T (xs[i]'hi).tags.length a) ∧ w.cell? ⟨b, o + i * 2 + 1, none⟩ = some (.slice U (xs[i]'hi).types.length u) ∧
   SlR Rep.txt w K T (xs[i]'hi).tags.length a (xs[i]'hi).tags ∧ SlR Rep.txt w K U (xs[i]'hi).types.length u (xs[i]'hi).types := by
 obtain ⟨b, o, d, e, hk, hd, hg⟩ := h.get (by decide) i hi
 obtain ⟨T, a, U, u, rfl, h2, h3⟩ := cl_rel hd
 have g0 := hg 0 _ rfl
 have g1 := hg 1 _ rfl
 simp only [show RCl.size = 2 from rfl, ← Nat.add_assoc, Nat.add_zero] at g0 g1
 exact ⟨b, o, T, a, U, u, e, hk, g0, g1, h2, h3⟩
end
theorem cells_new (w : World) (xs : List Value) (t : TypeId) (j : Nat) (v : Value) (h : xs[j]? = some v) : (w.alloc (.cells xs.toArray t)).cell? ⟨w.heap.size, j, none⟩ = some v := by
 rw [cell_of_row _ _ _ _ _ _ (heap_alloc_last w _)]
 simpa using h
theorem ext_alloc (w : World) (o : Obj) : Ext w (w.alloc o) := (Below.refl _ _).alloc (Nat.le_refl _) _
end Go.Proofs.YtakebdeldndaaaaGreatDoor
/- Rows outside of what is written; parts of rows. -/
namespace Go.Proofs.YtakebdeldndaaaaGreatDoor
open Go Go.RowKit
set_option linter.unusedSimpArgs false
set_option linter.unusedVariables false
def Out (S : Nat → Prop) (w : World) (k : Nat) : Prop := k < w.heap.size ∧ ¬ S k
theorem slR_kept {α : Type} {R : Rep α} {w w' : World} {S : Nat → Prop} {A : Option Addr} {n c : Nat} {xs : List α} {d m : Nat} (h : SlR R w (Out S w) A n c xs) (hk : Kept2 d m w w') (hd : S d) (hm : S m) : SlR R w' (Out S w') A n c xs := by
 refine (h.ext fun k hk' => hk.block k hk'.1 ?_ ?_).mono fun k hk' => ⟨Nat.lt_of_lt_of_le hk'.1 hk.size, hk'.2⟩
 ·rintro rfl; exact hk'.2 hd
 ·rintro rfl; exact hk'.2 hm
theorem slR_out {α : Type} {R : Rep α} {w : World} {S : Nat → Prop} {A : Option Addr} {n c : Nat} {xs : List α} (h : SlR R w (Out S w) A n c xs) : SlR R w (· < w.heap.size) A n c xs := h.mono fun _ hk => hk.1
theorem slR_more {α : Type} {R : Rep α} {w w' : World} {S S' : Nat → Prop} {A : Option Addr} {n c : Nat} {xs : List α} (h : SlR R w (Out S w) A n c xs) (hE : Ext w w') (hS : ∀ k, S' k → S k ∨ w.heap.size ≤ k) : SlR R w' (Out S' w') A n c xs :=
 (h.ext fun k hk => hE.block k hk.1).mono fun k hk => ⟨Nat.lt_of_lt_of_le hk.1 hE.size, fun h' => (hS k h').elim hk.2 (by have := hk.1; omega)⟩
theorem slR_take {α : Type} {R : Rep α} {w : World} {K : Nat → Prop} {A : Option Addr} {n c : Nat} {xs : List α} (h : SlR R w K A n c xs) (k : Nat) (hk : k ≤ n) : SlR R w K A k c (xs.take k) := by
 obtain ⟨h1, h2, h3, cs, hr, hv⟩ := h
 refine ⟨by rw [List.length_take]; omega, by omega, h3, _, hr.take k, ?_⟩
 rcases hv with h | ⟨b, o, e, kb, h⟩
 ·exact .inl (by rw [h, List.take_nil])
 ·refine .inr ⟨b, o, e, kb, fun j v hv => h j v ?_⟩
  rw [List.getElem?_take] at hv
  split at hv
  ·exact hv
  ·cases hv
theorem slR_nil {α : Type} {R : Rep α} (w : World) (K : Nat → Prop) : SlR R w K none 0 0 [] := ⟨rfl, Nat.le_refl _, by decide, [], rfl, .inl rfl⟩
theorem slR_box {α : Type} {R : Rep α} {w : World} {K : Nat → Prop} {x : α} {cs : List Value} {t : TypeId} (h : R.rel (w.alloc (.cells cs.toArray t)) K x cs) (hK : K w.heap.size) : SlR R (w.alloc (.cells cs.toArray t)) K (some ⟨w.heap.size, 0, none⟩) 1 1 [x] :=
 ⟨rfl, Nat.le_refl _, by decide, cs, Rows.single h, .inr ⟨_, _, rfl, hK, fun j v hv => by rw [Nat.zero_add]; exact cells_new w cs t j v hv⟩⟩
theorem slR_drop {α : Type} {R : Rep α} {w : World} {K : Nat → Prop} {b o n c : Nat} {xs : List α} (h : SlR R w K (some ⟨b, o, none⟩) n c xs) (k : Nat) (hk : k ≤ n) : SlR R w K (some ⟨b, o + k * R.size, none⟩) (n - k) (c - k) (xs.drop k) := by
 obtain ⟨h1, h2, h3, cs, hr, hv⟩ := h
 refine ⟨by rw [List.length_drop]; omega, by omega, by omega, _, hr.drop k, ?_⟩
 rcases hv with h | ⟨b', o', e, kb, h⟩
 ·exact .inl (by rw [h, List.drop_nil])
 ·simp only [Option.some.injEq, Addr.mk.injEq, and_true] at e
  obtain ⟨rfl, rfl⟩ := e
  refine .inr ⟨b, _, rfl, kb, fun j v hv => ?_⟩
  rw [List.getElem?_drop] at hv
  have := h _ v hv
  rwa [show o + (k * R.size + j) = o + k * R.size + j by omega] at this
theorem heap_setCell_row {w : World} {s o : Nat} {cs : Array Value} {t : TypeId} {f} (h : w.heap[s]? = some (.cells cs t f)) (v : Value) : (w.setCell ⟨s, o, none⟩ v).heap[s]? = some (.cells (cs.setIfInBounds o v) t f) := by
 simp [World.setCell, Array.getElem?_modify, h]
end Go.Proofs.YtakebdeldndaaaaGreatDoor
/- What an event has: Has and Value, of the program and of the document; texts that rise. -/
namespace Go.Proofs.YtakebdeldndaaaaGreatDoor
open Go Go.RowKit
set_option linter.unusedSimpArgs false
set_option linter.unusedVariables false
end Go.Proofs.YtakebdeldndaaaaGreatDoor
