/- A definition that is handed over, cut to eight clauses; rows that are loaded stay. -/
import Derived.Test.YtakebdeldndaaaaGreatFoMath
import Derived.Test.YtakebdeldndaaaaGreatOpF
import Derived.Deep.DeepCutAuto
namespace Go.Proofs.YtakebdeldndaaaaGreat
open Go Go.RowKit
set_option linter.unusedSimpArgs false
set_option linter.unusedVariables false

/-- The definition in its box, cut to eight clauses. -/
structure DefAt (w : World) (d : DefV) (A : Option Addr) (c : Nat) (wx : World) : Prop where
  box : DefBox w.heap.size d A d.q.length c wx
  q : SlR RCl wx (· < w.heap.size) A d.q.length c d.q
  ext : Ext w wx
def cut8 (d : DefV) : DefV := ⟨d.kind, d.field, d.q.take 8⟩
theorem DefAt.short {w w1 : World} {d : DefV} {A : Option Addr} {c : Nat} (hb : DefBox w.heap.size d A d.q.length c w1) (hq : SlR RCl w (· < w.heap.size) A d.q.length c d.q) (hE : Ext w w1) (h : d.q.length ≤ 8) : DefAt w (cut8 d) A c w1 := by
  have e : cut8 d = d := by unfold cut8; rw [List.take_of_length_le h]
  rw [e]
  exact ⟨hb, hq.ext fun k hk => hE.block k hk, hE⟩
theorem DefAt.long {w w1 : World} {d : DefV} {A : Option Addr} {c : Nat} (hb : DefBox w.heap.size d A d.q.length c w1) (hq : SlR RCl w (· < w.heap.size) A d.q.length c d.q) (hE : Ext w w1) (h : 8 < d.q.length) : DefAt w (cut8 d) A c (w1.setCell ⟨w.heap.size, 2, none⟩ (.slice A 8 c)) := by
  have hl : (cut8 d).q.length = 8 := by show (d.q.take 8).length = 8; rw [List.length_take]; omega
  have hE2 : Ext w (w1.setCell ⟨w.heap.size, 2, none⟩ (.slice A 8 c)) := hE.setCell (Nat.le_refl _) _
  refine ⟨?_, ?_, hE2⟩
  · unfold DefBox
    rw [hl]
    exact heap_setCell_row hb _
  · have := slR_take hq 8 (by omega)
    have hq2 : SlR RCl w (· < w.heap.size) A (cut8 d).q.length c (cut8 d).q := by rw [hl]; exact this
    exact hq2.ext fun k hk => hE2.block k hk
theorem DefBox.free {bx : Nat} {d : DefV} {A : Option Addr} {n c : Nat} {w : World} (h : DefBox bx d A n c w) (o : Nat) : w.frozen? ⟨bx, o, none⟩ = false := by
  unfold World.frozen?
  dsimp only
  rw [show w.heap[bx]? = _ from h]; rfl
/-! ### Rows that may be loaded -/
theorem ins_last (x : List UInt8 × Int) : ∀ D : Ents, (∀ y ∈ D, bytesBefore y.1 x.1 = true) → insI x D = D ++ [x]
  | [], _ => rfl
  | y :: r, h => by
    unfold insI
    rw [if_neg (by rw [tb_asymm (h y (by simp))]; decide), ins_last x r fun z hz => h z (by simp [hz])]
    rfl
theorem put_last (k : Str) (v : Int) (D : Ents) (h : ∀ y ∈ D, bytesBefore y.1 k = true) : putI k v D = D ++ [(k, v)] := by
  unfold putI
  have e : delI k D = D := by
    unfold delI
    rw [List.filter_eq_self]
    intro p hp
    have := tb_ne (h p hp)
    simpa using this
  rw [e]
  exact ins_last (k, v) D h
theorem puts_take {l : Ents} (h : UpI l) : ∀ k, k ≤ l.length → putsI (l.take k) = l.take k
  | 0, _ => rfl
  | k + 1, hk => by
    have hkx : k < l.length := by omega
    rw [List.take_succ_eq_append_getElem hkx, putsI_snoc, puts_take h k (by omega)]
    refine put_last _ _ _ fun y hy => ?_
    obtain ⟨j, hj, rfl⟩ := List.getElem_of_mem hy
    rw [List.length_take] at hj
    rw [List.getElem_take]
    exact (List.pairwise_iff_getElem.1 h) j k (by omega) hkx (by omega)
theorem puts_up {l : Ents} (h : UpI l) : putsI l = l := by
  have := puts_take h l.length (Nat.le_refl _)
  rwa [List.take_length] at this
theorem okE_bad {d : DefV} {l : Ents} (h : okE d l = true) {j : Nat} (hj : j < l.length) : badE d l j = false := by
  rw [okE, List.all_eq_true] at h
  have := h j (List.mem_range.2 hj)
  simpa using this
theorem up_of_adj : ∀ {l : Ents}, (∀ j (h : j + 1 < l.length), bytesBefore (l[j]'(by omega)).1 (l[j + 1]'h).1 = true) → UpI l
  | [], _ => .nil
  | [a], _ => List.pairwise_singleton _ _
  | a :: b :: r, h => by
    have ih : UpI (b :: r) := up_of_adj fun j hj => h (j + 1) (by simpa using hj)
    have h0 : bytesBefore a.1 b.1 = true := h 0 (by simp)
    refine List.pairwise_cons.2 ⟨fun x hx => ?_, ih⟩
    rcases List.mem_cons.1 hx with rfl | hx
    · exact h0
    · exact tb_trans h0 ((List.pairwise_cons.1 ih).1 x hx)
theorem okE_up {d : DefV} {l : Ents} (h : okE d l = true) : UpI l := by
  refine up_of_adj fun j hj => ?_
  have hb := okE_bad h hj
  unfold badE at hb
  simp only [Bool.or_eq_false_iff, Bool.and_eq_false_iff] at hb
  rcases hb.1.1 with h1 | h1
  · simp at h1
  · rw [show j + 1 - 1 = j from rfl, gE_at (show j < l.length by omega), gE_at hj] at h1
    simpa using h1
theorem okE_fit {d : DefV} {l : Ents} (h : okE d l = true) : FitB 1125899906842624 l := by
  intro p hp
  obtain ⟨j, hj, rfl⟩ := List.getElem_of_mem hp
  have hb := okE_bad h hj
  unfold badE at hb
  simp only [Bool.or_eq_false_iff] at hb
  have h1 := hb.1.2
  rw [gE_at hj] at h1
  have := (fitsN_iff l[j].2).1 (by simpa using h1)
  exact this
theorem loadF_ok {d : DefV} {l D : Ents} (h : okE d l = true) : loadF d l D = l := by unfold loadF; rw [if_pos h, puts_up (okE_up h)]
theorem loadF_no {d : DefV} {l D : Ents} (h : okE d l = false) : loadF d l D = D := by unfold loadF; rw [h]; rfl
theorem loadE_ok {d : DefV} {l : Ents} (h : okE d l = true) : loadE d l = 0 := by unfold loadE; rw [if_pos h]
theorem loadE_no {d : DefV} {l : Ents} (h : okE d l = false) : loadE d l = 1 := by unfold loadE; rw [h]; rfl
end Go.Proofs.YtakebdeldndaaaaGreat
