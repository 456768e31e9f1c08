/- The walk of disk.known. -/
import Derived.Test.YtpipmkaljkhgiaaDoorDisk2
namespace Go.Proofs.YtpipmkaljkhgiaaDoor
open Go Go.RowKit
set_option linter.unusedSimpArgs false
set_option linter.unusedVariables false

def atF (F : Files) (nm : List UInt8) : Option File := (F.find? (·.1 == nm)).map (·.2)
theorem Held.at_ {w : World} {S : Nat → Prop} (nm : List UInt8) : ∀ {G : Raw} {F : Files}, Held w S G F → (atF F nm = none ∧ atL G nm = none) ∨ ∃ f v, atF F nm = some f ∧ atL G nm = some v ∧ FileV w S v f
  | [], [], _ => .inl ⟨rfl, rfl⟩
  | p :: G, f :: F, ⟨h1, h2, h3⟩ => by
    have ih := h3.at_ nm
    unfold atF atL at ih ⊢
    rw [List.find?_cons, List.find?_cons, h1]
    cases (f.1 == nm)
    · exact ih
    · exact .inr ⟨f.2, p.2, rfl, rfl, h2⟩
theorem DiskAt.ext {w w' : World} {S : Nat → Prop} {d m : Nat} {q l : Int} {F : Files} (h : DiskAt w S d m q l F) (hE : Ext w w') : DiskAt w' S d m q l F := by
  obtain ⟨G, hG, hH⟩ := h.map
  have hlt := hG.lt
  refine ⟨h.str.of_block (hE.block d h.str.lt), ⟨G, ?_, hH.kept (Kept2.of_ext (d := d) (m := m) hE) h.own h.ownM⟩, h.apart, h.own, h.ownM⟩
  obtain ⟨es, clock, e1, e2⟩ := hG
  exact ⟨es, clock, by rw [hE.block m hlt]; exact e1, e2⟩
/-! ### The raw level: the struct and the map alone; the files' bytes are carried by Held.kept from the first world on -/
theorem burnt_raw {w : World} {d m : Nat} {q l : Int} {G : Raw} (h : DiskS w d m q l) (hG : MapAt w m G) (hne : d ≠ m) (hl : -9223372036854775808 ≤ l ∧ l ≤ 9223372036854775807) :
    Calls Tryd.prog 49 #[.pointer (some ⟨d, 0, none⟩)] w fun e w' => e = .returned (.bool (decide (l = 0))) ∧ DiskS w' d m q (burnL l) ∧ MapAt w' m G ∧ w.grownBy w' (some d) := by
  have H := hid h
  have HG := hid hG
  have c1 := h.left
  have c2 := h.free
  have hfus : Hid (DiskS (w.setCell ⟨d, 1, none⟩ (.int .i64 (l - 1))) d m q (l - 1) ∧ MapAt (w.setCell ⟨d, 1, none⟩ (.int .i64 (l - 1))) m G ∧ w.grownBy (w.setCell ⟨d, 1, none⟩ (.int .i64 (l - 1))) (some d)) := by
    refine ⟨⟨?_, ?_, ?_, ?_⟩, ?_, ?_⟩
    · exact (World.cell?_setCell_other (w := w) (a := ⟨d, 1, none⟩) (b := ⟨d, 0, none⟩) (v := .int .i64 (l - 1)) (h := by simp)).trans h.quota
    · exact World.cell?_setCell_same (w := w) (a := ⟨d, 1, none⟩) (h := h.left) ..
    · exact (World.cell?_setCell_other (w := w) (a := ⟨d, 1, none⟩) (b := ⟨d, 2, none⟩) (v := .int .i64 (l - 1)) (h := by simp)).trans h.files
    · simp only [World.frozen?_setCell]; exact h.free
    · obtain ⟨es, clock, e1, e2⟩ := hG
      exact ⟨es, clock, by rw [heap_setCell_other w ⟨d, 1, none⟩ m _ (fun e => hne e.symm)]; exact e1, e2⟩
    · exact ⟨rfl, rfl, rfl, by simp, fun k _ hk => heap_setCell_other w ⟨d, 1, none⟩ k _ (fun e => hk (by rw [e]))⟩
  have hwr : 0 < l → IntKind.i64.wrap (l - 1) = l - 1 := fun h0 => by rw [IntKind.wrap_i64]; omega
  have hrefl : Hid (w.grownBy w (some d)) := ⟨rfl, rfl, rfl, Nat.le_refl _, fun _ _ _ => rfl⟩
  clear h hG
  unfold burnL
  by_cases h0 : l = 0
  · subst h0
    go_enter Tryd.func49, Tryd.ntmps49
    go_wp2
    go_ret
    exact ⟨rfl, H.out, HG.out, hrefl.out⟩
  have hne' : (l == 0) = false := by rw [beq_eq_false_iff_ne]; exact h0
  by_cases hp : 0 < l
  · have hw2 := hwr hp
    clear hwr
    go_enter Tryd.func49, Tryd.ntmps49
    go_wp2
    go_ret
    exact ⟨rfl, hfus.out.1, hfus.out.2.1, hfus.out.2.2⟩
  · clear hwr
    go_enter Tryd.func49, Tryd.ntmps49
    go_wp2
    go_ret
    exact ⟨rfl, by first | exact H.out | (rw [if_neg (by omega)]; exact H.out), HG.out, hrefl.out⟩
/-- What known answers. -/
def knownE (l : Int) (G : Raw) (nm : List UInt8) : Int := if l = 0 then 14 else if (atL G nm).isSome then 0 else 11
def knownV (l : Int) (G : Raw) (nm : List UInt8) : Value := if l = 0 then zfile else (atL G nm).getD zfile
theorem DiskS.ext {w w' : World} {d m : Nat} {q l : Int} (h : DiskS w d m q l) (hE : Ext w w') : DiskS w' d m q l := h.of_block (hE.block d h.lt)
theorem MapAt.ext {w w' : World} {m : Nat} {G : Raw} (h : MapAt w m G) (hE : Ext w w') : MapAt w' m G := by
  have hlt := h.lt
  obtain ⟨es, clock, e1, e2⟩ := h
  exact ⟨es, clock, by rw [hE.block m hlt]; exact e1, e2⟩
end Go.Proofs.YtpipmkaljkhgiaaDoor
