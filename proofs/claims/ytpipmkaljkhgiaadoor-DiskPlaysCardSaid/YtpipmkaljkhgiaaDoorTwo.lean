/- The two disks side by side; what `does` does to both. -/
import Derived.Test.YtpipmkaljkhgiaaDoorRD11
import Derived.Test.YtpipmkaljkhgiaaDoorFound
namespace Go.Proofs.YtpipmkaljkhgiaaDoor
open Go Go.RowKit
set_option linter.unusedSimpArgs false
set_option linter.unusedVariables false

structure Apart (d m y g : Nat) : Prop where
  dy : d ≠ y
  dg : d ≠ g
  my : m ≠ y
  mg : m ≠ g
structure Two (w : World) (S : Nat → Prop) (d m y g : Nat) (q1 l1 : Int) (F1 : Files) (q2 l2 : Int) (F2 : Files) : Prop where
  disk : DiskIs w S d m q1 l1 F1
  ref : RefIs w S y g q2 l2 F2
  apart : Apart d m y g
/-- What a call of both leaves. -/
structure BStep (w w' : World) (S S' : Nat → Prop) (d m y g : Nat) : Prop where
  os : w'.os = w.os
  tape : w'.tape = w.tape
  output : w'.output = w.output
  size : w.heap.size ≤ w'.heap.size
  block : ∀ k, k < w.heap.size → k ≠ d → k ≠ m → k ≠ y → k ≠ g → w'.heap[k]? = w.heap[k]?
  same : ∀ k, k < w.heap.size → (S' k ↔ S k)
  fresh : ∀ k, w'.heap.size ≤ k → ¬ S' k
variable {w w' w1 w2 : World} {S S' S1 S2 : Nat → Prop} {d m y g g' g1 : Nat} {q1 l1 q2 l2 l1' l2' : Int} {F1 F2 F1' F2' : Files}
theorem BStep.trans (h : BStep w w1 S S1 d m y g) (k : BStep w1 w2 S1 S2 d m y g1) (hg : g1 = g ∨ w.heap.size ≤ g1) : BStep w w2 S S2 d m y g := by
  refine ⟨k.os.trans h.os, k.tape.trans h.tape, k.output.trans h.output, Nat.le_trans h.size k.size, fun i hi a1 a2 a3 a4 => (k.block i (Nat.lt_of_lt_of_le hi h.size) a1 a2 a3 ?_).trans (h.block i hi a1 a2 a3 a4), fun i hi => (k.same i (Nat.lt_of_lt_of_le hi h.size)).trans (h.same i hi), k.fresh⟩
  rcases hg with rfl | hg
  · exact a4
  · omega
theorem BStep.of_ext (hE : Ext w w') (hf : ∀ k, w.heap.size ≤ k → ¬ S k) : BStep w w' S S d m y g := ⟨hE.os, hE.tape, hE.output, hE.size, fun i hi _ _ _ _ => hE.block i hi, fun _ _ => Iff.rfl, fun k hk => hf k (Nat.le_trans hE.size hk)⟩
theorem BStep.of_kept (h : Kept2 d m w w') (hf : ∀ k, w.heap.size ≤ k → ¬ S k) : BStep w w' S S d m y g := ⟨h.os, h.tape, h.output, h.size, fun i hi a1 a2 _ _ => h.block i hi a1 a2, fun _ _ => Iff.rfl, fun k hk => hf k (Nat.le_trans h.size hk)⟩
theorem BStep.of_ref (h : RStep w w' S S' y g) : BStep w w' S S' d m y g := ⟨h.kept.os, h.kept.tape, h.kept.output, h.kept.size, fun i hi _ _ a3 a4 => h.kept.block i hi a3 a4, h.same, h.fresh⟩
theorem Two.ext (h : Two w S d m y g q1 l1 F1 q2 l2 F2) (hE : Ext w w') : Two w' S d m y g q1 l1 F1 q2 l2 F2 := ⟨h.disk.ext hE, h.ref.ext hE, h.apart⟩
/-- Behind a call of the disk. -/
theorem Two.fst (h : Two w S d m y g q1 l1 F1 q2 l2 F2) (hD : DiskIs w' S d m q1 l1' F1') (hK : Kept2 d m w w') : Two w' S d m y g q1 l1' F1' q2 l2 F2 :=
  ⟨hD, h.ref.kept hK (fun _ _ => Iff.rfl) (fun k hk => h.disk.fresh k (Nat.le_trans hK.size hk)) h.disk.own h.disk.ownM (fun e => h.apart.dy e.symm) (fun e => h.apart.my e.symm) (fun e => h.apart.dg e.symm) (fun e => h.apart.mg e.symm), h.apart⟩
/-- Behind a call of the reference. -/
theorem Two.snd (h : Two w S d m y g q1 l1 F1 q2 l2 F2) (hR : RefIs w' S' y g' q2 l2' F2') (hS : RStep w w' S S' y g) (hg : g' = g ∨ w.heap.size ≤ g') : Two w' S' d m y g' q1 l1 F1 q2 l2' F2' :=
  ⟨h.disk.beside hS h.ref.own h.ref.ownG h.apart.dy h.apart.dg h.apart.my h.apart.mg, hR, h.apart.dy, by
    have := h.disk.lt
    rcases hg with rfl | hg
    · exact h.apart.dg
    · omega, h.apart.my, by
    have := h.disk.lt
    rcases hg with rfl | hg
    · exact h.apart.mg
    · omega⟩
/-- What a call of kind k answers, leaves of the fuse, and of the files. -/
def doE (k q l : Int) (F : Files) (n : Int) (nm to b : List UInt8) : Int :=
  if k = 3 then knownEF l F nm else if k = 4 then renEF l F nm to else if k = 5 then truncEF l F nm n else if k = 6 then knownEF l F nm else if k = 7 then 0 else if k = 8 then turnEF F nm n else appE q l F nm (b.take 200)
def doL (k l : Int) : Int := if k = 7 then -1 else if k = 8 then l else burnL l
def doF (k q l : Int) (F : Files) (n : Int) (nm to b : List UInt8) : Files :=
  if k = 3 then syncF l F nm else if k = 4 then renF l F nm to else if k = 5 then truncF l F nm n else if k = 6 then dropF l F nm else if k = 7 then crashF n F else if k = 8 then turnF F nm n else appF q l F nm (b.take 200)
/-- The call's box. -/
def OpBox (bx : Nat) (kd n : Int) (nm to : List UInt8) (A : Option Addr) (ln c : Nat) (w : World) : Prop :=
  w.heap[bx]? = some (.cells #[.int .i64 kd, .int .i64 n, .string (str nm), .string (str to), .slice A ln c] 46)
theorem OpBox.cells {bx : Nat} {kd n : Int} {nm to : List UInt8} {A : Option Addr} {ln c : Nat} (h : OpBox bx kd n nm to A ln c w) :
    w.cell? ⟨bx, 0, none⟩ = some (.int .i64 kd) ∧ w.cell? ⟨bx, 1, none⟩ = some (.int .i64 n) ∧ w.cell? ⟨bx, 2, none⟩ = some (.string (str nm)) ∧ w.cell? ⟨bx, 3, none⟩ = some (.string (str to)) ∧ w.cell? ⟨bx, 4, none⟩ = some (.slice A ln c) := by
  refine ⟨?_, ?_, ?_, ?_, ?_⟩ <;> · rw [cell_of_row _ _ _ _ _ _ h]; rfl
theorem OpBox.kept {bx : Nat} {kd n : Int} {nm to : List UInt8} {A : Option Addr} {ln c : Nat} (h : OpBox bx kd n nm to A ln c w) {x z : Nat} (hk : Kept2 x z w w') (h1 : bx ≠ x) (h2 : bx ≠ z) : OpBox bx kd n nm to A ln c w' :=
  (hk.block bx (Array.getElem?_eq_some_iff.1 h).1 h1 h2).trans h
theorem OpBox.ext {bx : Nat} {kd n : Int} {nm to : List UInt8} {A : Option Addr} {ln c : Nat} (h : OpBox bx kd n nm to A ln c w) (hE : Ext w w') : OpBox bx kd n nm to A ln c w' :=
  (hE.block bx (Array.getElem?_eq_some_iff.1 h).1).trans h
/-- Both behind it. -/
def After (w0 : World) (S : Nat → Prop) (d m y g : Nat) (q1 l1 : Int) (F1 : Files) (q2 l2 : Int) (F2 : Files) (w : World) : Prop :=
  ∃ S' g', Two w S' d m y g' q1 l1 F1 q2 l2 F2 ∧ BStep w0 w S S' d m y g ∧ (g' = g ∨ w0.heap.size ≤ g')
/-- The disk behind it. -/
def Mid (w0 : World) (S : Nat → Prop) (d m y g : Nat) (q1 l1 : Int) (F1 : Files) (q2 l2 : Int) (F2 : Files) (w : World) : Prop :=
  Two w S d m y g q1 l1 F1 q2 l2 F2 ∧ Kept2 d m w0 w
theorem After.mk {w0 : World} (h : Mid w0 S d m y g q1 l1 F1 q2 l2 F2 w) (hf : ∀ k, w0.heap.size ≤ k → ¬ S k) (hR : RefIs w' S' y g' q2 l2' F2') (hS : RStep w w' S S' y g) (hg : g' = g ∨ w.heap.size ≤ g') : After w0 S d m y g q1 l1 F1 q2 l2' F2' w' :=
  ⟨S', g', h.1.snd hR hS hg, (BStep.of_kept h.2 hf).trans (BStep.of_ref hS) (.inl rfl), hg.imp id fun h' => Nat.le_trans h.2.size h'⟩
theorem After.from_ {w0 w1 w : World} (h : After w1 S d m y g q1 l1 F1 q2 l2 F2 w) (hE : Ext w0 w1) (hf : ∀ k, w0.heap.size ≤ k → ¬ S k) : After w0 S d m y g q1 l1 F1 q2 l2 F2 w := by
  obtain ⟨S', g', h1, h2, h3⟩ := h
  exact ⟨S', g', h1, (BStep.of_ext hE hf).trans h2 (.inl rfl), h3.imp id fun h' => Nat.le_trans hE.size h'⟩
/-- Bytes of one's own, past a call of another. -/
theorem OB.keptAt {base : Nat} {v : Value} {bs : List UInt8} (h : OB w base v bs) {x z : Nat} (hk : Kept2 x z w w') (h1 : ∀ k, v.ownBlock = some k → k ≠ x ∧ k ≠ z) : OB w' base v bs := by
  refine ⟨h.1, ?_⟩
  rcases h.2 with h' | ⟨g', cap, cur, rfl, hb', hg, r⟩
  · exact .inl h'
  · have hne := h1 g' rfl
    exact .inr ⟨g', cap, cur, rfl, hb', by rw [hk.block g' (Array.getElem?_eq_some_iff.1 hg).1 hne.1 hne.2]; exact hg, r⟩
/-- A block for it, though it may have none. -/
theorem OB.block_ {base : Nat} {v : Value} {bs : List UInt8} (h : OB w base v bs) (hb : base < w.heap.size) : ∃ ob, base ≤ ob ∧ ob < w.heap.size ∧ ∀ k, v.ownBlock = some k → k = ob := by
  cases hq : v.ownBlock with
  | none => exact ⟨base, Nat.le_refl _, hb, fun k hk => by cases hk⟩
  | some k => have := World.ownsRow.lt h k hq; exact ⟨k, this.1, this.2, fun j hj => by cases hj; rfl⟩
/-- A young block of the caller's own, not to be the disks'. -/
theorem Two.own_ (h : Two w S d m y g q1 l1 F1 q2 l2 F2) (hE : Ext w w') {ob : Nat} (h1 : w.heap.size ≤ ob) (h2 : ob < w'.heap.size) : Two w' (fun k => S k ∨ k = ob) d m y g q1 l1 F1 q2 l2 F2 ∧ BStep w w' S (fun k => S k ∨ k = ob) d m y g := by
  have same : ∀ k, k < w.heap.size → ((S k ∨ k = ob) ↔ S k) := fun k hk => ⟨fun h => by rcases h with h | h; exact h; omega, .inl⟩
  have fresh : ∀ k, w'.heap.size ≤ k → ¬ (S k ∨ k = ob) := fun k hk h' => by
    rcases h' with h' | h'
    · exact h.disk.fresh k (Nat.le_trans hE.size hk) h'
    · omega
  exact ⟨⟨h.disk.beside (S' := fun k => S k ∨ k = ob) ⟨Kept2.of_ext hE, same, fresh⟩ h.ref.own h.ref.ownG h.apart.dy h.apart.dg h.apart.my h.apart.mg,
    h.ref.kept (S' := fun k => S k ∨ k = ob) (d := d) (m := m) (Kept2.of_ext hE) same fresh h.disk.own h.disk.ownM (fun e => h.apart.dy e.symm) (fun e => h.apart.my e.symm) (fun e => h.apart.dg e.symm) (fun e => h.apart.mg e.symm), h.apart⟩,
    ⟨hE.os, hE.tape, hE.output, hE.size, fun i hi _ _ _ _ => hE.block i hi, same, fresh⟩⟩
/-- The caller writes its own block. -/
theorem Two.wrote (h : Two w S d m y g q1 l1 F1 q2 l2 F2) {ob : Nat} (hk : Kept2 ob ob w w') (hob : S ob) (h1 : d ≠ ob) (h2 : m ≠ ob) (h3 : y ≠ ob) (h4 : g ≠ ob) : Two w' S d m y g q1 l1 F1 q2 l2 F2 :=
  ⟨h.disk.kept hk hob hob h1 h1 h2 h2, h.ref.kept hk (fun _ _ => Iff.rfl) (fun k hk' => h.disk.fresh k (Nat.le_trans hk.size hk')) hob hob h3 h3 h4 h4, h.apart⟩
theorem BStep.wrote {w0 : World} (h : BStep w0 w S S' d m y g) {ob : Nat} (hk : Kept2 ob ob w w') (hob : w0.heap.size ≤ ob) : BStep w0 w' S S' d m y g :=
  ⟨hk.os.trans h.os, hk.tape.trans h.tape, hk.output.trans h.output, Nat.le_trans h.size hk.size, fun i hi a1 a2 a3 a4 => (hk.block i (Nat.lt_of_lt_of_le hi h.size) (by omega) (by omega)).trans (h.block i hi a1 a2 a3 a4), h.same, fun k hk' => h.fresh k (Nat.le_trans hk.size hk')⟩
theorem RS.take {A : Option Addr} {bs : List UInt8} (h : RS w S A bs) (n : Nat) : RS w S A (bs.take n) := by
  rcases h with h0 | ⟨b, o, e, kb, hv⟩
  · refine .inl ?_
    have h0' : bs = [] := by
      cases bs with
      | nil => rfl
      | cons x l => simp [bvs] at h0
    rw [h0']; simp [bvs]
  · refine .inr ⟨b, o, e, kb, fun j v hj => hv j v ?_⟩
    simp only [bvs, List.getElem?_map, List.getElem?_take] at hj ⊢
    split at hj
    · exact hj
    · cases hj
theorem RS.step {A : Option Addr} {bs : List UInt8} (h : RS w S A bs) (hs : BStep w w' S S' d m y g) (hd : S d) (hm : S m) (hy : S y) (hg : S g) : RS w' S' A bs :=
  (RK.ext h fun k hk => hs.block k hk.1 (by rintro rfl; exact hk.2 hd) (by rintro rfl; exact hk.2 hm) (by rintro rfl; exact hk.2 hy) (by rintro rfl; exact hk.2 hg)).mono fun k hk => ⟨Nat.lt_of_lt_of_le hk.1 hs.size, fun h' => hk.2 ((hs.same k hk.1).1 h')⟩
end Go.Proofs.YtpipmkaljkhgiaaDoor
