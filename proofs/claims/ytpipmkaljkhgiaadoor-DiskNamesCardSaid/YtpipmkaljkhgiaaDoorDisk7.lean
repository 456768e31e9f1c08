/- The walks of disk.New and Fuse. -/
import Derived.Test.YtpipmkaljkhgiaaDoorDisk6
import Derived.Carry
namespace Go.Proofs.YtpipmkaljkhgiaaDoor
open Go Go.RowKit
set_option linter.unusedSimpArgs false
set_option linter.unusedVariables false

theorem run_max0 (n m : Int) (hm : m = max n 0) (ts : Array TypeId) (t : TypeId) (w : World) : (Builtin.max_ ts t #[.int .i64 n, .int .i64 0]).run Tryd.prog w = .ok (.int .i64 m) w := by
  simp [Builtin.max_, Builtin.max2]
  repeat' split
  all_goals omega
set_option maxRecDepth 100000 in
theorem new_disk (q : Int) (w : World) :
    Calls Tryd.prog 10 #[.int .i64 q] w fun e w' => ∃ d m, e = .returned (.pointer (some ⟨d, 0, none⟩)) ∧ d ≠ m ∧ w.heap.size ≤ d ∧ w.heap.size ≤ m ∧ DiskS w' d m (max q 0) (-1) ∧ MapAt w' m [] ∧ Ext w w' := by
  have hmax := run_max0 q (max q 0) rfl
  obtain ⟨x, hx⟩ : ∃ x, x = max q 0 := ⟨_, rfl⟩
  rw [← hx] at hmax ⊢
  clear hx
  have hmk := fun w => run_makeMap (P := Tryd.prog) 56 w
  go_enter Tryd.func10, Tryd.ntmps10
  go_wp2
  go_ret
  have hE1 : Ext w (w.alloc (.map #[] 0)) := (Below.refl _ _).alloc (Nat.le_refl _) _
  have hs : (w.alloc (.map #[] 0)).heap.size = w.heap.size + 1 := by simp
  refine ⟨w.heap.size + 1, w.heap.size, rfl, by omega, by omega, Nat.le_refl _, ?_, ?_, ?_⟩
  · have hb := heap_alloc_last (w.alloc (.map #[] 0)) (.cells #[.int .i64 x, .int .i64 (-1), .map (some w.heap.size)] 58)
    rw [hs] at hb
    exact ⟨by rw [cell_of_row _ _ _ _ _ _ hb]; rfl, by rw [cell_of_row _ _ _ _ _ _ hb]; rfl, by rw [cell_of_row _ _ _ _ _ _ hb]; rfl, by unfold World.frozen?; dsimp only; rw [hb]; rfl⟩
  · exact (MapAt.made w).ext ((Below.refl _ _).alloc (Nat.le_refl _) _)
  · exact hE1.alloc hE1.size _
end Go.Proofs.YtpipmkaljkhgiaaDoor
