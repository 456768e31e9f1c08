/- Queries and projections as bytes. -/
import Derived.Test.YtakebdeldndaaaaGreatDoorNum
import Derived.Test.YtakebdeldndaaaaGreatDoorQu
import Derived.Test.YtakebdeldndaaaaGreatDoorFo1
import Derived.Test.YtakebdeldndaaaaGreatDoorFoy
import Derived.Test.YtakebdeldndaaaaGreatDoorNorms
namespace Go.Proofs.YtakebdeldndaaaaGreatDoor
open Go Go.RowKit
set_option linter.unusedSimpArgs false
set_option linter.unusedVariables false
structure FitC (c : ClV) : Prop where
 tags : ∀ t ∈ c.tags, t.length ≤ 1000
 types : ∀ t ∈ c.types, t.length ≤ 1000
 few : c.tags.length ≤ 4 ∧ c.types.length ≤ 4
def RDef : Rep DefV := Rep.of (Rep.pair Rep.i64 (Rep.pair Rep.txt RCls)) fun d => (d.kind, d.field, d.q)
theorem def_rel {w : World} {K : Nat → Prop} {d : DefV} {cs : List Value} (h : RDef.rel w K d cs) : ∃ A c, cs = [.int .i64 d.kind, .string (str d.field), .slice A d.q.length c] ∧ Short d.field ∧ SlR RCl w K A d.q.length c d.q := by
 obtain ⟨c0, r0, e0, h0, c1, r1, e1, h1, h2⟩ := h
 have e0' : c0 = [.int .i64 d.kind] := h0
 have e1' : c1 = [.string (str d.field)] := h1.1
 obtain ⟨A, c, e2, hq⟩ := slice_rel h2
 exact ⟨A, c, by rw [e0, e1, e0', e1', e2]; rfl, h1.2, hq⟩
theorem def_at {w : World} {K : Nat → Prop} {A : Option Addr} {n c : Nat} {xs : List DefV} (h : SlR RDef w K A n c xs) (i : Nat) (hi : i < xs.length) :
  ∃ b o B d, A = some ⟨b, o, none⟩ ∧ K b ∧ w.cell? ⟨b, o + i * 3, none⟩ = some (.int .i64 (xs[i]'hi).kind) ∧ w.cell? ⟨b, o + i * 3 + 1, none⟩ = some (.string (str (xs[i]'hi).field)) ∧ w.cell? ⟨b, o + i * 3 + 2, none⟩ = some (.slice B (xs[i]'hi).q.length d) ∧
   Short (xs[i]'hi).field ∧ SlR RCl w K B (xs[i]'hi).q.length d (xs[i]'hi).q := by
 obtain ⟨b, o, cs, e, hk, hd, hg⟩ := h.get (by decide) i hi
 obtain ⟨B, d, rfl, h1, h2⟩ := def_rel hd
 refine ⟨b, o, B, d, e, hk, ?_, ?_, ?_, h1, h2⟩
 ·have := hg 0 _ rfl; simpa [show RDef.size = 3 from rfl] using this
 ·have := hg 1 _ rfl; simpa [show RDef.size = 3 from rfl, Nat.add_assoc] using this
 ·have := hg 2 _ rfl; simpa [show RDef.size = 3 from rfl, Nat.add_assoc] using this
theorem fitC_may {q : List ClV} (h : mayQ q = 0) : q.length ≤ 4 ∧ ∀ c ∈ q, FitC c := by
 unfold mayQ at h
 split at h
 ·cases h
 rename_i h1
 split at h
 ·cases h
 rename_i h2
 simp only [Bool.not_eq_true, Bool.or_eq_false_iff, decide_eq_false_iff_not, List.any_eq_false] at h1
 simp only [Bool.not_eq_true, List.any_eq_false] at h2
 refine ⟨by omega, fun c hc => ?_⟩
 have hb := h1.2 c hc
 have hno := h2 c hc
 unfold bigC at hb
 unfold noneC at hno
 simp only [Bool.not_eq_true, Bool.or_eq_false_iff, decide_eq_false_iff_not, List.any_eq_false, Bool.not_eq_false'] at hb hno
 refine ⟨fun t ht => ?_, fun t ht => ?_, by omega⟩
 ·have := hno.1 t ht
  exact tagN_len (by simpa using this)
 ·have := hno.2 t ht
  have := mayN_len (show mayN t = true by simpa using this)
  omega
structure FitD (d : DefV) : Prop where
 kind : 1 ≤ d.kind ∧ d.kind ≤ 4
 field : d.field.length ≤ 24
 q : mayQ d.q = 0
theorem fitD_may {d : DefV} (h : mayDef d = 0) : FitD d := by
 unfold mayDef at h
 split at h
 ·cases h
 rename_i h1
 split at h
 ·rename_i h2; exact absurd h h2
 rename_i h2
 refine ⟨by omega, ?_, Classical.byContradiction fun h3 => h2 h3⟩
 split at h
 ·split at h
  ·rename_i h4; exact mayN_len h4
  ·cases h
 ·split at h
  ·rename_i h4; rw [h4]; simp
  ·cases h
theorem flat_le {α : Type} {f : α → List UInt8} {N : Nat} : ∀ (l : List α), (∀ x ∈ l, (f x).length ≤ N) → (l.flatMap f).length ≤ N * l.length
 | [], _ => by simp
 | x :: l, h => by
  have h1 := h x (by simp)
  have h2 := flat_le l fun y hy => h y (by simp [hy])
  rw [List.flatMap_cons, List.length_append, List.length_cons, Nat.mul_succ]
  omega
def obX (base : Nat) (bs : List UInt8) : SPred := ⟨fun v w => OB w base v bs, fun _ _ _ h hE => OB.below h hE⟩
theorem OB.rd {w : World} {base : Nat} {v : Value} {bs : List UInt8} (h : OB w base v bs) : ∃ A n c, v = .slice A n c ∧ n = bs.length ∧ n ≤ c ∧ RB w A bs := by
 obtain ⟨A, c, e, hc, hr⟩ := h.read
 exact ⟨A, _, c, e, rfl, hc, hr⟩
def lsB (xs : List Str) : List UInt8 := encB (xs.length : Int) ++ xs.flatMap encT
def clB (c : ClV) : List UInt8 := lsB c.tags ++ lsB c.types
def qB (q : List ClV) : List UInt8 := encB (q.length : Int) ++ q.flatMap clB
def dfB (d : DefV) : List UInt8 := encB d.kind ++ encT d.field ++ qB d.q
def dfsB (ds : List DefV) : List UInt8 := encB (ds.length : Int) ++ ds.flatMap dfB
theorem flat_next {α : Type} (f : α → List UInt8) {xs : List α} {k : Nat} (h : k < xs.length) : (xs.take (k + 1)).flatMap f = (xs.take k).flatMap f ++ f xs[k] := by
 rw [List.take_succ_eq_append_getElem h, List.flatMap_append]; simp
theorem flat_take {α : Type} {f : α → List UInt8} {N : Nat} {xs : List α} (h : ∀ x ∈ xs, (f x).length ≤ N) (k : Nat) : ((xs.take k).flatMap f).length ≤ N * k := by
 have h1 := flat_le (f := f) (N := N) (xs.take k) fun x hx => h x (List.mem_of_mem_take hx)
 rw [List.length_take] at h1
 exact Nat.le_trans h1 (Nat.mul_le_mul_left _ (by omega))
theorem flat_take' {α : Type} {f : α → List UInt8} {N : Nat} {xs : List α} {k : Nat} (h : ∀ j (hj : j < k) (h : j < xs.length), (f xs[j]).length ≤ N) : ((xs.take k).flatMap f).length ≤ N * k := by
 have h1 := flat_le (f := f) (N := N) (xs.take k) fun x hx => by
  obtain ⟨j, hj, rfl⟩ := List.getElem_of_mem hx
  rw [List.length_take] at hj
  rw [List.getElem_take]
  exact h j (by omega) (by omega)
 rw [List.length_take] at h1
 exact Nat.le_trans h1 (Nat.mul_le_mul_left _ (by omega))
theorem encT_small {t : Str} (h : t.length ≤ 1000) : (encT t).length ≤ 1010 := by
 have := encT_len (s := t) (by omega); omega
theorem lsB_len {xs : List Str} {m : Nat} (hm : xs.length ≤ m) (h4 : m ≤ 4) (h : ∀ t ∈ xs, t.length ≤ 1000) : (lsB xs).length ≤ 4050 := by
 have h1 := flat_le (f := encT) (N := 1010) xs fun x hx => encT_small (h x hx)
 have h2 := encB_len (x := (xs.length : Int)) (by omega)
 unfold lsB
 rw [List.length_append]
 omega
theorem clB_len {c : ClV} (h : FitC c) : (clB c).length ≤ 8100 := by
 have h1 := lsB_len h.few.1 (Nat.le_refl 4) h.tags
 have h2 := lsB_len h.few.2 (Nat.le_refl 4) h.types
 unfold clB
 rw [List.length_append]
 omega
theorem qB_len {q : List ClV} (h : mayQ q = 0) : (qB q).length ≤ 32410 := by
 obtain ⟨h1, h2⟩ := fitC_may h
 have h3 := flat_le (f := clB) (N := 8100) q fun x hx => clB_len (h2 x hx)
 have h4 := encB_len (x := (q.length : Int)) (by omega)
 unfold qB
 rw [List.length_append]
 omega
theorem dfB_len {d : DefV} (h : FitD d) : (dfB d).length ≤ 32460 := by
 have h1 := qB_len h.q
 have hk := h.kind
 have h2 := encB_len (x := d.kind) (by omega)
 have h3 := encT_len (s := d.field) (by have := h.field; omega)
 have := h.field
 unfold dfB
 rw [List.length_append, List.length_append]
 omega
end Go.Proofs.YtakebdeldndaaaaGreatDoor
