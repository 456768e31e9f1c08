/- The walk of disk.Fuse, at the raw level. -/
import Derived.Test.YtpipmkaljkhgiaaDoorDisk9
namespace Go.Proofs.YtpipmkaljkhgiaaDoor
open Go Go.RowKit
set_option linter.unusedSimpArgs false
set_option linter.unusedVariables false

theorem fuse_raw {w : World} {d m : Nat} {q l n : Int} {G : Raw} (h : DiskS w d m q l) (hG : MapAt w m G) (hne : d ≠ m) :
    Calls Tryd.prog 22 #[.pointer (some ⟨d, 0, none⟩), .int .i64 n] w fun e w' => e = .returned (.tuple #[]) ∧ DiskS w' d m q (max n 0) ∧ MapAt w' m G ∧ Kept2 d m w w' := by
  have hmax := run_max0 n (max n 0) rfl
  obtain ⟨x, hx⟩ : ∃ x, x = max n 0 := ⟨_, rfl⟩
  rw [← hx] at hmax ⊢
  clear hx
  have c1 := h.left
  have c2 := h.free
  have hres : Hid (DiskS (w.setCell ⟨d, 1, none⟩ (.int .i64 x)) d m q x ∧ MapAt (w.setCell ⟨d, 1, none⟩ (.int .i64 x)) m G ∧ Kept2 d m w (w.setCell ⟨d, 1, none⟩ (.int .i64 x))) := by
    refine ⟨⟨?_, ?_, ?_, ?_⟩, hG.set _ _ (fun e => hne e.symm), ?_⟩
    · exact (World.cell?_setCell_other (w := w) (a := ⟨d, 1, none⟩) (b := ⟨d, 0, none⟩) (v := .int .i64 x) (h := by simp)).trans h.quota
    · exact World.cell?_setCell_same (w := w) (a := ⟨d, 1, none⟩) (h := h.left) ..
    · exact (World.cell?_setCell_other (w := w) (a := ⟨d, 1, none⟩) (b := ⟨d, 2, none⟩) (v := .int .i64 x) (h := by simp)).trans h.files
    · simp only [World.frozen?_setCell]; exact h.free
    · exact ⟨rfl, rfl, rfl, by simp, fun k hk h1 _ => heap_setCell_other w ⟨d, 1, none⟩ k _ (fun e => h1 e)⟩
  clear h hG
  go_enter Tryd.func22, Tryd.ntmps22
  go_wp2
  go_end0
  exact ⟨rfl, hres.out⟩
end Go.Proofs.YtpipmkaljkhgiaaDoor
