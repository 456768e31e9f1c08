/- The walk of crc.New: it makes the table, whose entries are eight steps each; nothing that was there is written. -/
import Derived.Test.YtjfggfmhchoobaaProg
import Derived.Test.YtjfggfmhchoobaaCrcSum
namespace Go.Proofs.Ytjfggfmhchoobaa
open Go Go.RowKit

/-- The table when its first k entries stand. -/
def tabs (k : Nat) : Array Value := ((List.range 256).map fun i => if i < k then Value.int .u32 ((Crc.tab i).toNat : Int) else .int .u32 0).toArray

theorem tabs_size (k : Nat) : (tabs k).size = 256 := by simp [tabs]
theorem tabs_get (k i : Nat) (h : i < 256) : (tabs k)[i]? = some (if i < k then Value.int .u32 ((Crc.tab i).toNat : Int) else .int .u32 0) := by
  simp [tabs, h]
theorem tabs_set (k : Nat) (h : k < 256) : (tabs k).setIfInBounds k (.int .u32 ((Crc.tab k).toNat : Int)) = tabs (k + 1) := by
  apply Array.ext_getElem?
  intro i
  rw [Array.getElem?_setIfInBounds]
  by_cases hi : i < 256
  · rw [tabs_get _ _ hi, tabs_get _ _ hi, tabs_size]
    by_cases e : k = i
    · subst e; simp [h]
    · simp only [e, if_false]
      by_cases hl : i < k
      · simp [hl, show i < k + 1 by omega]
      · simp [hl, show ¬ i < k + 1 by omega]
  · have h1 : (tabs (k + 1))[i]? = none := by rw [Array.getElem?_eq_none_iff, tabs_size]; omega
    have h2 : (tabs k)[i]? = none := by rw [Array.getElem?_eq_none_iff, tabs_size]; omega
    rw [h1, h2, if_neg (by omega)]
theorem tabs_cells (k : Nat) : (tabs k).all (·.oneCell') = true := by
  rw [Array.all_eq_true]
  intro i hi
  have := tabs_get k i (by rw [tabs_size] at hi; exact hi)
  rw [Array.getElem?_eq_getElem hi] at this
  injection this with this
  rw [this]
  split <;> rfl
/-- One step as the program reckons it. -/
theorem step_val (y : BitVec 32) : bits .xor .u32 ((y.toNat : Int) / 2) (bits .and .u32 (y.toNat : Int) 1 * 3988292384 % 4294967296) = ((Crc.step y).toNat : Int) := by
  have hy := y.isLt
  have e1 : bits .and .u32 (y.toNat : Int) 1 = ((y.toNat % 2 : Nat) : Int) := by
    have := u32_and_nat y.toNat 1 hy (by omega)
    rw [Nat.and_one_is_mod] at this
    exact this
  rw [e1, Crc.step_toNat]
  have hm : y.toNat % 2 = 0 ∨ y.toNat % 2 = 1 := by omega
  rw [show ((y.toNat : Int) / 2) = ((y.toNat / 2 : Nat) : Int) by omega,
    show (((y.toNat % 2 : Nat) : Int) * 3988292384 % 4294967296) = ((y.toNat % 2 * 3988292384 : Nat) : Int) by omega]
  exact u32_xor_nat _ _ (by omega) (by omega)

/-- One step as the reference reckons it. -/
theorem step_bits (y : BitVec 32) : (if y.toNat % 2 = 1 then bits .xor .u32 ((y.toNat : Int) / 2) 3988292384 else (y.toNat : Int) / 2) = ((Crc.step y).toNat : Int) := by
  have hy := y.isLt
  rw [Crc.step_toNat]
  have hm : y.toNat % 2 = 0 ∨ y.toNat % 2 = 1 := by omega
  rcases hm with h | h
  · rw [if_neg (by omega), h]; simp
  · rw [if_pos h, h, show ((y.toNat : Int) / 2) = ((y.toNat / 2 : Nat) : Int) by omega, show (3988292384 : Int) = ((3988292384 : Nat) : Int) from rfl, u32_xor_nat _ _ (by omega) (by omega)]

theorem tabs_zero_info : (Try.prog.info? 27).map (fun i => (i.zero, i.size)) = some (some (.agg (tabs 0)), 256) := by kernel_rfl

set_option maxRecDepth 100000 in
theorem new_calls (w : World) :
    Calls Try.prog 15 #[] w fun e w' => e = .returned (.agg (tabs 256)) ∧ Below w.heap.size w w' := by
  obtain ⟨hz, hsz⟩ := zero_of_info tabs_zero_info
  clear hsz
  go_enter Try.func15, Try.ntmps15
  go_wp2_with fail
  clear hz
  go_loopw [4] (fun i wr => ∃ k : Nat, k ≤ 256 ∧ i = .int .i64 k ∧ wr = ((w.alloc (.cells (tabs 0) 27)).alloc (.cells (tabs k) 27))) (fun i _ => 256 - (intOf i).toNat)
  case atStart => exact ⟨0, by omega, rfl, rfl⟩
  case round =>
    obtain ⟨k, hk, rfl, rfl⟩ := hrel
    by_cases hlt : k < 256
    · go_wp2_with fail
      go_loop [3, 9] (fun x j => ∃ (m : Nat) (y : BitVec 32), m ≤ 8 ∧ j = .int .i64 m ∧ x = .int .u32 (y.toNat : Int) ∧ y = Nat.repeat Crc.step m (BitVec.ofNat 32 k)) (fun _ j => 8 - (intOf j).toNat)
      case atStart => exact ⟨0, BitVec.ofNat 32 k, by omega, rfl, by simp; omega, rfl⟩
      case round =>
        obtain ⟨m, y, hm, rfl, rfl, hy⟩ := hrel
        have Hy := hid hy; clear hy
        by_cases hmt : m < 8
        · have e := step_val y
          go_wp2
          go_round
          case rel => exact ⟨m + 1, Crc.step y, by omega, by go_num, rfl, by rw [Hy.out]; rfl⟩
          case measure => simp [intOf]; omega
        · obtain rfl : m = 8 := by omega
          have hy : y = Crc.tab k := by rw [Crc.tab_repeat]; exact Hy.out
          subst hy
          have hg := tabs_get k k hlt
          have hs := tabs_set k hlt
          rw [if_neg (by omega)] at hg
          go_wp2
          go_roundw
          case rel => exact ⟨k + 1, by omega, by go_num, rfl⟩
          case measure => simp [intOf]; omega
    · obtain rfl : k = 256 := by omega
      have hi : (Try.prog.info? 27).map (·.size) = some (tabs 256).size := by
        rw [tabs_size]; exact (zero_of_info tabs_zero_info).2
      have h0 := heap_alloc2_old w (.cells (tabs 0) 27) (.cells (tabs 256) 27)
      have h1 := heap_alloc2_new w (.cells (tabs 0) 27) (.cells (tabs 256) 27)
      have hw : ((w.alloc (.cells (tabs 0) 27)).alloc (.cells (tabs 256) 27)).setRow w.heap.size (tabs 256) = (w.alloc (.cells (tabs 256) 27)).alloc (.cells (tabs 256) 27) := by
        rw [setRow_alloc_old _ _ _ _ (by simp), World.setRow_alloc_new]
      have H0 := hid h0; have H1 := hid h1; have HI := hid hi; have HW := hid hw
      clear h0 h1 hi hw
      go_wp2_with (first
        | refine wpList_load_row rfl 27 (.tmp 1) rfl (w.heap.size + 1) rfl 27 (tabs 256) (0, 0) _ H1.out Try.underlying27 rfl HI.out ?_
        | refine wpList_store_row rfl 27 (.tmp 0) (.tmp 22) rfl w.heap.size rfl (tabs 256) rfl 27 (tabs 0) H0.out HI.out rfl (tabs_cells 256) ?_)
      refine bodyPost_ret (v := .agg (tabs 256)) ?_ rfl ⟨rfl, ?_⟩
      · rw [HW.out]
        exact results_cell_row rfl _ _ w.heap.size 27 (tabs 256) (0, 0) _ rfl (heap_alloc2_old w _ _) Try.underlying27 rfl HI.out
      · rw [HW.out]
        exact ((Below.refl _ _).alloc (Nat.le_refl _) _).alloc (by simp) _
attribute [irreducible] tabs
end Go.Proofs.Ytjfggfmhchoobaa
