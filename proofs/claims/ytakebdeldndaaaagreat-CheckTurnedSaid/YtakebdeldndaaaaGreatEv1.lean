/- What an event has: Has and Value, of the program and of the document; texts that rise. -/
import Derived.Test.YtakebdeldndaaaaGreatEv
import Derived.Test.YtakebdeldndaaaaGreatNm3
namespace Go.Proofs.YtakebdeldndaaaaGreat
open Go Go.RowKit
set_option linter.unusedSimpArgs false
set_option linter.unusedVariables false

def hasT (tags : List Str) (t : Str) : Bool := tags.any (t == ·)
def valF (fs : List (Str × Int)) (f : Str) : Option Int := (fs.find? (·.1 == f)).map (·.2)
/-- The event's box. -/
def EvBox (bx : Nat) (A : Option Addr) (n c : Nat) (B : Option Addr) (m d : Nat) (e : EvV) (w : World) : Prop :=
  w.heap[bx]? = some (.cells #[.string (str e.st), .string (str e.ty), .slice A n c, .slice B m d] 62)
theorem EvBox.cells {bx : Nat} {A B : Option Addr} {n c m d : Nat} {e : EvV} {w : World} (h : EvBox bx A n c B m d e w) :
    w.cell? ⟨bx, 0, none⟩ = some (.string (str e.st)) ∧ w.cell? ⟨bx, 1, none⟩ = some (.string (str e.ty)) ∧ w.cell? ⟨bx, 2, none⟩ = some (.slice A n c) ∧ w.cell? ⟨bx, 3, none⟩ = some (.slice B m d) := by
  refine ⟨?_, ?_, ?_, ?_⟩ <;> · rw [cell_of_row _ _ _ _ _ _ h]; rfl
theorem EvBox.ext {bx : Nat} {A B : Option Addr} {n c m d : Nat} {e : EvV} {w w' : World} (h : EvBox bx A n c B m d e w) (hE : Ext w w') : EvBox bx A n c B m d e w' := (hE.block bx (Array.getElem?_eq_some_iff.1 h).1).trans h
theorem find_upto {fs : List (Str × Int)} {f : Str} {k : Nat} (hk : k < fs.length) (he : (fs[k].1 == f) = true) (hno : ∀ j (hj : j < k) (h : j < fs.length), (fs[j].1 == f) = false) : valF fs f = some fs[k].2 := by
  unfold valF
  have : fs.find? (·.1 == f) = some fs[k] := by
    rw [List.find?_eq_some_iff_getElem]
    exact ⟨he, k, hk, rfl, fun j hj => by simpa using hno j hj (by omega)⟩
  rw [this]; rfl
theorem find_no {fs : List (Str × Int)} {f : Str} (hno : ∀ j (h : j < fs.length), (fs[j].1 == f) = false) : valF fs f = none := by
  unfold valF
  have : fs.find? (·.1 == f) = none := by
    rw [List.find?_eq_none]
    intro x hx
    obtain ⟨j, hj, rfl⟩ := List.getElem_of_mem hx
    rw [hno j hj]; decide
  rw [this]; rfl
set_option maxRecDepth 100000 in
set_option maxHeartbeats 4000000 in
theorem refHas_at {w : World} {A B : Option Addr} {n c m d : Nat} {e : EvV} (h : EvIn w A n c B m d e) (t : Str) :
    Calls Tryz.prog 115 #[evVal A n c B m d e, .string (str t)] w fun x w' => x = .returned (.bool (hasT e.tags t)) ∧ Ext w w' := by
  unfold evVal
  have hn := hid h.tags.1
  have hnc := h.tags.2.1
  have hcm := h.tags.2.2.1
  have hst := str_toList
  have H := hid h
  clear h
  go_enter Tryz.func115, Tryz.ntmps115
  go_wp2_with fail
  have HE0 := hid (ext_alloc (w) (.cells #[.string (str e.st), .string (str e.ty), .slice A n c, .slice B m d] 62))
  have Hbx := hid (show EvBox (w).heap.size A n c B m d e ((w).alloc (.cells #[.string (str e.st), .string (str e.ty), .slice A n c, .slice B m d] 62)) from heap_alloc_last _ _)
  generalize w.alloc (.cells #[.string (str e.st), .string (str e.ty), .slice A n c, .slice B m d] 62) = w1 at HE0 Hbx ⊢
  go_loop [5] (fun i => ∃ k : Nat, k ≤ n ∧ i = .int .i64 (k : Int) ∧ Hid (∀ j (hj : j < k) (h : j < e.tags.length), (t == e.tags[j]) = false)) (fun i => n - (intOf i).toNat)
  case atStart => exact ⟨0, by omega, rfl, fun j hj => by omega⟩
  case round =>
    obtain ⟨k, hk, rfl, HN⟩ := hrel
    obtain ⟨-, -, b2, -⟩ := Hbx.out.cells
    by_cases hlt : k < n
    · have hkx : k < e.tags.length := by have := hn.out; omega
      have hlt' : (k : Int) < (n : Int) := by omega
      have hk00 : ¬ ((k : Int) < 0) := by omega
      have hk0 : (0 : Int) ≤ (k : Int) := by omega
      obtain ⟨b, o, rfl, -, f0, -⟩ := txt_at (H.out.grow HE0.out).tags k hkx
      cases hpx : (t == e.tags[k])
      · have hn2 := hid (prefix_next (p := (t == ·)) HN.out hkx hpx)
        have hpy : (e.tags[k] == t) = false := by rw [← hpx]; exact Bool.eq_iff_iff.2 (by simp only [beq_iff_eq]; exact eq_comm)
        generalize e.tags[k] = x at f0 hpy
        clear hpx
        go_wp2_with fail
        go_round
        case rel => exact ⟨k + 1, by omega, by go_num, hn2⟩
        case measure => simp [intOf]; omega
      · have hb := hid (show hasT e.tags t = true from List.any_eq_true.2 ⟨_, List.getElem_mem hkx, hpx⟩)
        have hpy : (e.tags[k] == t) = true := by rw [← hpx]; exact Bool.eq_iff_iff.2 (by simp only [beq_iff_eq]; exact eq_comm)
        generalize e.tags[k] = x at f0 hpy
        clear hpx
        go_wp2
        go_ret
        exact ⟨by rw [hb.out]; rfl, HE0.out⟩
    · obtain rfl : k = n := by omega
      have hlt' : ¬ ((k : Int) < (k : Int)) := by omega
      have hb := hid (show hasT e.tags t = false by
        unfold hasT
        rw [List.any_eq_false]
        intro x hx
        obtain ⟨j, hj, rfl⟩ := List.getElem_of_mem hx
        rw [HN.out j (by have := hn.out; omega) hj]; decide)
      go_wp2
      go_ret
      exact ⟨by rw [hb.out]; rfl, HE0.out⟩
set_option maxRecDepth 100000 in
theorem has_at {w : World} {A B : Option Addr} {n c m d : Nat} {e : EvV} (h : EvIn w A n c B m d e) (t : Str) :
    Calls Tryz.prog 94 #[evVal A n c B m d e, .string (str t)] w fun x w' => x = .returned (.bool (hasT e.tags t)) ∧ Ext w w' := by
  unfold evVal
  have H := hid h
  clear h
  have HE0 := hid (ext_alloc (w) (.cells #[.string (str e.st), .string (str e.ty), .slice A n c, .slice B m d] 62))
  have Hbx := hid (show EvBox (w).heap.size A n c B m d e ((w).alloc (.cells #[.string (str e.st), .string (str e.ty), .slice A n c, .slice B m d] 62)) from heap_alloc_last _ _)
  obtain ⟨-, -, b2, -⟩ := Hbx.out.cells
  go_enter Tryz.func94, Tryz.ntmps94
  go_wp2_with fail
  refine (contains_txt (H.out.grow HE0.out).tags t).mono ?_
  rintro x w' ⟨rfl, rfl⟩
  clear b2
  go_wp2
  go_ret
  exact ⟨rfl, HE0.out⟩
set_option maxRecDepth 100000 in
set_option maxHeartbeats 4000000 in
theorem refValue_at {w : World} {A B : Option Addr} {n c m d : Nat} {e : EvV} (h : EvIn w A n c B m d e) (t : Str) :
    Calls Tryz.prog 71 #[evVal A n c B m d e, .string (str t)] w fun x w' => x = .returned (.tuple #[.int .i64 ((valF e.fields t).getD 0), .bool (valF e.fields t).isSome]) ∧ Ext w w' := by
  unfold evVal
  have hn := hid h.fields.1
  have hnc := h.fields.2.1
  have hcm := h.fields.2.2.1
  have hst := str_toList
  have H := hid h
  clear h
  go_enter Tryz.func71, Tryz.ntmps71
  go_wp2_with fail
  have HE0 := hid (ext_alloc (w) (.cells #[.string (str e.st), .string (str e.ty), .slice A n c, .slice B m d] 62))
  have Hbx := hid (show EvBox (w).heap.size A n c B m d e ((w).alloc (.cells #[.string (str e.st), .string (str e.ty), .slice A n c, .slice B m d] 62)) from heap_alloc_last _ _)
  generalize w.alloc (.cells #[.string (str e.st), .string (str e.ty), .slice A n c, .slice B m d] 62) = w1 at HE0 Hbx ⊢
  go_loop [6] (fun i => ∃ k : Nat, k ≤ m ∧ i = .int .i64 (k : Int) ∧ Hid (∀ j (hj : j < k) (h : j < e.fields.length), (e.fields[j].1 == t) = false)) (fun i => m - (intOf i).toNat)
  case atStart => exact ⟨0, by omega, rfl, fun j hj => by omega⟩
  case round =>
    obtain ⟨k, hk, rfl, HN⟩ := hrel
    obtain ⟨-, -, -, b3⟩ := Hbx.out.cells
    by_cases hlt : k < m
    · have hkx : k < e.fields.length := by have := hn.out; omega
      have hlt' : (k : Int) < (m : Int) := by omega
      have hk00 : ¬ ((k : Int) < 0) := by omega
      have hk0 : (0 : Int) ≤ (k : Int) := by omega
      obtain ⟨b, o, rfl, -, f0, f1, -⟩ := field_at (H.out.grow HE0.out).fields k hkx
      cases hpx : (e.fields[k].1 == t)
      · have hn2 := hid (prefix_next (p := fun f : Str × Int => f.1 == t) HN.out hkx hpx)
        generalize e.fields[k].1 = x at f0 hpx
        clear f1
        go_wp2_with fail
        go_round
        case rel => exact ⟨k + 1, by omega, by go_num, hn2⟩
        case measure => simp [intOf]; omega
      · have hb := hid (find_upto hkx hpx HN.out)
        generalize e.fields[k].1 = x at f0 hpx
        generalize e.fields[k].2 = y at f1 hb
        go_wp2
        go_ret2
        exact ⟨by rw [hb.out]; rfl, HE0.out⟩
    · obtain rfl : k = m := by omega
      have hlt' : ¬ ((k : Int) < (k : Int)) := by omega
      have hb := hid (find_no (fs := e.fields) (f := t) fun j h => HN.out j (by have := hn.out; omega) h)
      go_wp2
      go_ret2
      exact ⟨by rw [hb.out]; rfl, HE0.out⟩
set_option maxRecDepth 100000 in
set_option maxHeartbeats 4000000 in
theorem value_at {w : World} {A B : Option Addr} {n c m d : Nat} {e : EvV} (h : EvIn w A n c B m d e) (t : Str) :
    Calls Tryz.prog 169 #[evVal A n c B m d e, .string (str t)] w fun x w' => x = .returned (.tuple #[.int .i64 ((valF e.fields t).getD 0), .bool (valF e.fields t).isSome]) ∧ Ext w w' := by
  unfold evVal
  have hn := hid h.fields.1
  have hnc := h.fields.2.1
  have hcm := h.fields.2.2.1
  have hst := str_toList
  have H := hid h
  clear h
  have HE0 := hid (ext_alloc (w) (.cells #[.string (str e.st), .string (str e.ty), .slice A n c, .slice B m d] 62))
  have Hbx := hid (show EvBox (w).heap.size A n c B m d e ((w).alloc (.cells #[.string (str e.st), .string (str e.ty), .slice A n c, .slice B m d] 62)) from heap_alloc_last _ _)
  obtain ⟨-, -, -, b3⟩ := Hbx.out.cells
  go_enter Tryz.func169, Tryz.ntmps169
  go_wp2_with fail
  clear b3
  go_loopw [11] (fun i wr => ∃ k : Nat, k ≤ m ∧ i = .int .i64 (k : Int) ∧ Hid (Ext w wr) ∧ Hid (∀ j (hj : j < k) (h : j < e.fields.length), (e.fields[j].1 == t) = false)) (fun i _ => m - (intOf i).toNat)
  case atStart => exact ⟨0, by omega, rfl, HE0, fun j hj => by omega⟩
  case round =>
    obtain ⟨k, hk, rfl, HE, HN⟩ := hrel
    by_cases hlt : k < m
    · have hkx : k < e.fields.length := by have := hn.out; omega
      have hlt' : (k : Int) < (m : Int) := by omega
      have hk00 : ¬ ((k : Int) < 0) := by omega
      have hk0 : (0 : Int) ≤ (k : Int) := by omega
      obtain ⟨b, o, rfl, -, f0, f1, -⟩ := field_at (H.out.grow HE.out).fields k hkx
      cases hpx : (e.fields[k].1 == t)
      · have hn2 := hid (prefix_next (p := fun f : Str × Int => f.1 == t) HN.out hkx hpx)
        generalize e.fields[k].1 = x at f0 hpx
        generalize e.fields[k].2 = y at f1
        go_wp2_with fail
        go_roundw
        case rel => exact ⟨k + 1, by omega, by go_num, Ext.trans' HE.out (ext_alloc _ _), hn2⟩
        case measure => simp [intOf]; omega
      · have hb := hid (find_upto hkx hpx HN.out)
        generalize e.fields[k].1 = x at f0 hpx
        generalize e.fields[k].2 = y at f1 hb
        go_wp2
        go_ret2
        exact ⟨by rw [hb.out]; rfl, Ext.trans' HE.out (ext_alloc _ _)⟩
    · obtain rfl : k = m := by omega
      have hlt' : ¬ ((k : Int) < (k : Int)) := by omega
      have hb := hid (find_no (fs := e.fields) (f := t) fun j h => HN.out j (by have := hn.out; omega) h)
      go_wp2
      go_ret2
      exact ⟨by rw [hb.out]; rfl, HE.out⟩
end Go.Proofs.YtakebdeldndaaaaGreat
