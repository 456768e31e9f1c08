/- Three states side by side, and a row of events. -/
import Derived.Test.YtakebdeldndaaaaGreatFoRun
namespace Go.Proofs.YtakebdeldndaaaaGreat
open Go Go.RowKit
set_option linter.unusedSimpArgs false
set_option linter.unusedVariables false

theorem SlR.grow' {α : Type} {R : Rep α} {w wx : World} {A : Option Addr} {n c : Nat} {xs : List α} (h : SlR R wx (· < w.heap.size) A n c xs) (hs : w.heap.size ≤ wx.heap.size) : SlR R wx (· < wx.heap.size) A n c xs := h.mono fun _ hk => Nat.lt_of_lt_of_le hk hs
/-- Whose blocks are apart. -/
def Apart (a ma b mb : Nat) : Prop := a ≠ b ∧ a ≠ mb ∧ ma ≠ b ∧ ma ≠ mb
theorem Apart.symm {a ma b mb : Nat} (h : Apart a ma b mb) : Apart b mb a ma := ⟨fun e => h.1 e.symm, fun e => h.2.2.1 e.symm, fun e => h.2.1 e.symm, fun e => h.2.2.2 e.symm⟩
theorem StIs.aside {w w' : World} {S : Nat → Prop} {s m a ma : Nat} {kv ka : Value} {q qa : List ClV} {D Da : Ents} (h : StIs w S s m kv q D) (hk : Kept2 a ma w w') (ha : StIs w S a ma ka qa Da) (hap : Apart s m a ma) : StIs w' S s m kv q D :=
  h.kept hk ha.sIn ha.mIn hap.1 hap.2.1 hap.2.2.1 hap.2.2.2
structure Three (n0 : Nat) (S : Nat → Prop) (a ma b mb c mc : Nat) (da db dc : DefV) (wx : World) (Da Db Dc : Ents) : Prop where
  A : StIs wx S a ma (kdVal da) da.q Da
  B : StIs wx S b mb (kdVal db) db.q Db
  C : StIs wx S c mc (kdVal dc) dc.q Dc
  ab : Apart a ma b mb
  ac : Apart a ma c mc
  bc : Apart b mb c mc
  lo : ∀ k, S k → n0 ≤ k
section
variable {n0 : Nat} {S : Nat → Prop} {a ma b mb c mc : Nat} {da db dc : DefV} {w w' : World} {Da Db Dc D' : Ents}
theorem Three.ext (h : Three n0 S a ma b mb c mc da db dc w Da Db Dc) (hE : Ext w w') : Three n0 S a ma b mb c mc da db dc w' Da Db Dc := ⟨h.A.ext hE, h.B.ext hE, h.C.ext hE, h.ab, h.ac, h.bc, h.lo⟩
theorem Three.stepA (h : Three n0 S a ma b mb c mc da db dc w Da Db Dc) (hS : StIs w' S a ma (kdVal da) da.q D') (hk : Kept2 a ma w w') : Three n0 S a ma b mb c mc da db dc w' D' Db Dc :=
  ⟨hS, h.B.aside hk h.A h.ab.symm, h.C.aside hk h.A h.ac.symm, h.ab, h.ac, h.bc, h.lo⟩
theorem Three.stepB (h : Three n0 S a ma b mb c mc da db dc w Da Db Dc) (hS : StIs w' S b mb (kdVal db) db.q D') (hk : Kept2 b mb w w') : Three n0 S a ma b mb c mc da db dc w' Da D' Dc :=
  ⟨h.A.aside hk h.B h.ab, hS, h.C.aside hk h.B h.bc.symm, h.ab, h.ac, h.bc, h.lo⟩
theorem Three.stepC (h : Three n0 S a ma b mb c mc da db dc w Da Db Dc) (hS : StIs w' S c mc (kdVal dc) dc.q D') (hk : Kept2 c mc w w') : Three n0 S a ma b mb c mc da db dc w' Da Db D' :=
  ⟨h.A.aside hk h.C h.ac, h.B.aside hk h.C h.bc, hS, h.ab, h.ac, h.bc, h.lo⟩
theorem Three.belowA (h : Three n0 S a ma b mb c mc da db dc w Da Db Dc) (hk : Kept2 a ma w w') (hn : n0 ≤ w.heap.size) : Below n0 w w' := hk.below (h.lo _ h.A.sIn) (h.lo _ h.A.mIn) hn
theorem Three.belowB (h : Three n0 S a ma b mb c mc da db dc w Da Db Dc) (hk : Kept2 b mb w w') (hn : n0 ≤ w.heap.size) : Below n0 w w' := hk.below (h.lo _ h.B.sIn) (h.lo _ h.B.mIn) hn
theorem Three.belowC (h : Three n0 S a ma b mb c mc da db dc w Da Db Dc) (hk : Kept2 c mc w w') (hn : n0 ≤ w.heap.size) : Below n0 w w' := hk.below (h.lo _ h.C.sIn) (h.lo _ h.C.mIn) hn
end
def S6 (a ma b mb c mc : Nat) (k : Nat) : Prop := k = a ∨ k = ma ∨ k = b ∨ k = mb ∨ k = c ∨ k = mc
/-- Three that were made, one behind the other. -/
theorem three_new {n0 : Nat} {a ma b mb c mc : Nat} {da db dc : DefV} {w w1 w2 w3 wa wb : World} {Da Db Dc : Ents} (h0 : n0 ≤ w.heap.size) (hA : StNew w1 w.heap.size a ma (kdVal da) da.q Da) (hB : StNew w2 wa.heap.size b mb (kdVal db) db.q Db) (hC : StNew w3 wb.heap.size c mc (kdVal dc) dc.q Dc)
    (e1 : Ext w w1) (e1a : Ext w1 wa) (e2 : Ext wa w2) (e2b : Ext w2 wb) (e3 : Ext wb w3) (ha : w.heap.size ≤ a) (hma : w.heap.size ≤ ma) (hb : wa.heap.size ≤ b) (hmb : wa.heap.size ≤ mb) (hc : wb.heap.size ≤ c) (hmc : wb.heap.size ≤ mc) :
    Three n0 (S6 a ma b mb c mc) a ma b mb c mc da db dc w3 Da Db Dc := by
  have l1 := hA.lt; have l2 := hB.lt; have l3 := hC.lt
  have s1 := e1.size; have s1a := e1a.size; have s2 := e2.size; have s2b := e2b.size; have s3 := e3.size
  refine ⟨?_, ?_, ?_, ⟨by omega, by omega, by omega, by omega⟩, ⟨by omega, by omega, by omega, by omega⟩, ⟨by omega, by omega, by omega, by omega⟩, fun k hk => by rcases hk with h | h | h | h | h | h <;> omega⟩
  · exact (hA.is (S := fun k => k = a ∨ k = ma) (fun k hk => .inr hk) (.inl rfl) (.inr rfl)).more (e1a.trans' (e2.trans' (e2b.trans' e3))) (fun k hk => by
      rcases hk with h | h | h | h | h | h
      · exact .inl (.inl h)
      · exact .inl (.inr h)
      all_goals right; omega) (.inl rfl) (.inr (.inl rfl))
  · exact (hB.is (S := fun k => k = a ∨ k = ma ∨ k = b ∨ k = mb) (fun k hk => by rcases hk with h | h | h | h <;> omega) (.inr (.inr (.inl rfl))) (.inr (.inr (.inr rfl)))).more (e2b.trans' e3) (fun k hk => by
      rcases hk with h | h | h | h | h | h
      · exact .inl (.inl h)
      · exact .inl (.inr (.inl h))
      · exact .inl (.inr (.inr (.inl h)))
      · exact .inl (.inr (.inr (.inr h)))
      all_goals right; omega) (.inr (.inr (.inl rfl))) (.inr (.inr (.inr (.inl rfl))))
  · exact hC.is (fun k hk => by rcases hk with h | h | h | h | h | h <;> omega) (.inr (.inr (.inr (.inr (.inl rfl))))) (.inr (.inr (.inr (.inr (.inr rfl)))))
/-- The third one's load: the set grows by the new map. -/
theorem more_load {w : World} {S : Nat → Prop} {m m' : Nat} (hm : m' = m ∨ w.heap.size ≤ m') (hS : S m) : ∀ k, (S k ∨ k = m') → S k ∨ w.heap.size ≤ k := fun k hk => by
  rcases hk with h | rfl
  · exact .inl h
  · rcases hm with rfl | h
    · exact .inl hS
    · exact .inr h
theorem three_load {n0 : Nat} {S : Nat → Prop} {a ma b mb c mc m' : Nat} {da db dc : DefV} {w w' : World} {Da Db Dc D' : Ents} (h : Three n0 S a ma b mb c mc da db dc w Da Db Dc) (hm : m' = mc ∨ w.heap.size ≤ m') (hS : StIs w' (fun k => S k ∨ k = m') c m' (kdVal dc) dc.q D') (hk : Kept2 c c w w') (hn : n0 ≤ w.heap.size) :
    Three n0 (fun k => S k ∨ k = m') a ma b mb c m' da db dc w' Da Db D' := by
  have hA := h.A.more (S' := fun k => S k ∨ k = m') (Below.refl _ _) (more_load hm h.C.mIn) (.inl h.A.sIn) (.inl h.A.mIn)
  have hB := h.B.more (S' := fun k => S k ∨ k = m') (Below.refl _ _) (more_load hm h.C.mIn) (.inl h.B.sIn) (.inl h.B.mIn)
  have l1 := h.A.lt; have l2 := h.B.lt
  refine ⟨hA.kept hk (.inl h.C.sIn) (.inl h.C.sIn) h.ac.1 h.ac.1 h.ac.2.2.1 h.ac.2.2.1, hB.kept hk (.inl h.C.sIn) (.inl h.C.sIn) h.bc.1 h.bc.1 h.bc.2.2.1 h.bc.2.2.1, hS, h.ab, ⟨h.ac.1, ?_, h.ac.2.2.1, ?_⟩, ⟨h.bc.1, ?_, h.bc.2.2.1, ?_⟩, fun k hk' => ?_⟩
  · rcases hm with rfl | hm
    · exact h.ac.2.1
    · omega
  · rcases hm with rfl | hm
    · exact h.ac.2.2.2
    · omega
  · rcases hm with rfl | hm
    · exact h.bc.2.1
    · omega
  · rcases hm with rfl | hm
    · exact h.bc.2.2.2
    · omega
  · rcases hk' with h' | rfl
    · exact h.lo k h'
    · rcases hm with rfl | hm
      · exact h.lo _ h.C.mIn
      · omega
end Go.Proofs.YtakebdeldndaaaaGreat
