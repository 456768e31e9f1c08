/- The walk of disk.List. -/
import Derived.Test.YtpipmkaljkhgiaaDoorDiskShown
import Derived.Test.YtpipmkaljkhgiaaDoorNames
import Derived.Test.YtpipmkaljkhgiaaDoorIter
namespace Go.Proofs.YtpipmkaljkhgiaaDoor
open Go Go.RowKit
set_option linter.unusedSimpArgs false
set_option linter.unusedVariables false

theorem strKeys_raw (G : Raw) : strKeys (DataW.map (rawL G)) = G.map (·.1) := by
  show (G.map fun p => (Lit.string p.1, DataW.held p.2)).map (fun p => strOf p.1) = _
  rw [List.map_map]; rfl
theorem rows_str {w : World} {K : Nat → Prop} : ∀ (l : List (List UInt8)), Rows Rep.str w K l (l.map strV)
  | [] => rfl
  | x :: l => ⟨[strV x], l.map strV, rfl, rfl, rows_str l⟩
theorem own_strs {w : World} {base : Nat} {v : Value} {l : List (List UInt8)} (h : w.ownsRow base 9 1 v l.length (l.map strV)) : OwnR Rep.str 9 w base v l := ⟨_, h, rows_str l⟩
set_option maxRecDepth 100000 in
set_option maxHeartbeats 2000000 in
theorem list_at {w : World} {S : Nat → Prop} {d m : Nat} {q l : Int} {F : Files} (h : DiskIs w S d m q l F) :
    Calls Tryd.prog 26 #[.pointer (some ⟨d, 0, none⟩)] w fun e w' => ∃ v, e = .returned v ∧ OwnR Rep.str 9 w' w.heap.size v (F.map (·.1)) ∧ Ext w w' := by
  have c2 := h.str.files
  obtain ⟨G, hG, hH⟩ := h.map
  have hlen := hH.length
  have hfew := h.few
  have HG := hid hG
  have Hnm := hid hH.names
  have Hup := hid h.up
  have hsz : Maps.size (DataW.map (rawL G)) ≤ maxLen := by
    show (rawL G).length ≤ maxLen
    rw [rawL_length, hlen]; simp only [maxLen]; omega
  have hsz2 : Maps.size (DataW.map (rawL G)) * 16 ≤ 140737488355328 := by
    show (rawL G).length * 16 ≤ _
    rw [rawL_length, hlen]; omega
  have hk := fun w => (callsIn_wide).1 (Tryd.maps_Keys_46 (some m) w)
  have hs := callsIn_wide.1 (Tryd.slices_Sorted_keys_45_46 m G.length (DataW.map (rawL G)) rawE w hG hsz hsz2)
  clear h hG hH hlen hfew hsz hsz2
  go_enter Tryd.func26, Tryd.ntmps26
  go_wp2_with fail
  refine (hk _).mono ?_
  rintro e w1 ⟨rfl, rfl⟩
  clear hk
  go_wp2_with fail
  refine hs.mono ?_
  rintro e w2 ⟨v, ss, rfl, hp, hr, -, hB⟩
  rw [strKeys_raw, Hnm.out] at hp
  rw [sort_names hp (by have := Hup.out; unfold Up at this; rw [List.pairwise_map]; exact this), hp.length_eq] at hr
  have HO := hid (own_strs hr)
  have HB := hid hB
  clear hs hp hr hB
  go_wp2
  go_ret
  have hE : Ext w (w.alloc (.cells #[.map (some m)] 56)) := (Below.refl _ _).alloc (Nat.le_refl _) _
  exact ⟨_, rfl, HO.out.base' hE.size, Ext.trans' hE HB.out⟩
end Go.Proofs.YtpipmkaljkhgiaaDoor
