/- slices.Clone and slices.Compact of texts; which queries' texts rise. -/
import Derived.Test.YtpmmapcjohmniaaGreatEv2
import Derived.Lib.OwnBridge
namespace Go.Proofs.YtpmmapcjohmniaaGreat
open Go Go.RowKit
set_option linter.unusedSimpArgs false
set_option linter.unusedVariables false

/-- Texts of the call's own. -/
def OwnT (w : World) (base : Nat) (v : Value) (xs : List Str) : Prop := w.ownsRow base 9 1 v xs.length (xs.map strV)
theorem OwnT.read {w : World} {base : Nat} {v : Value} {xs : List Str} (h : OwnT w base v xs) (hs : ∀ s ∈ xs, Short s) : ∃ A c, v = .slice A xs.length c ∧ SlR Rep.txt w (· < w.heap.size) A xs.length c xs := by
  have h' : OwnR Rep.txt 9 w base v xs := ⟨_, h, rows_txt hs⟩
  exact h'.read
theorem OwnT.ownR {w : World} {base : Nat} {v : Value} {xs : List Str} (h : OwnT w base v xs) (hs : ∀ s ∈ xs, Short s) : OwnR Rep.txt 9 w base v xs := ⟨_, h, rows_txt hs⟩
theorem clone_txt {w : World} {A : Option Addr} {n c : Nat} {xs : List Str} (h : SlR Rep.txt w (· < w.heap.size) A n c xs) (hn : n ≤ 1000000) :
    Calls Tryz.prog 72 #[.slice A n c] w fun e w' => ∃ v, e = .returned v ∧ OwnT w' w.heap.size v xs ∧ Ext w w' := by
  have hl := h.1
  cases A with
  | none =>
    have hx : xs = [] := by
      cases xs with
      | nil => rfl
      | cons x l => obtain ⟨b, o, e, -⟩ := txt_at h 0 (by simp); cases e
    subst hx
    refine (Tryz.slices_Clone_string_nil n c w).mono ?_
    rintro e w' ⟨rfl, rfl⟩
    exact ⟨_, rfl, World.ownsRow_nil _ _ _ 1, Below.refl _ _⟩
  | some a =>
    cases n with
    | zero =>
      have hx : xs = [] := List.eq_nil_of_length_eq_zero hl.symm
      subst hx
      refine (Tryz.slices_Clone_string_zero a c w).mono ?_
      rintro e w' ⟨v, rfl, ho, -, hE⟩
      exact ⟨v, rfl, ho, hE⟩
    | succ n =>
      obtain ⟨b, o, e, -⟩ := txt_at h 0 (by omega)
      obtain rfl : a = ⟨b, o, none⟩ := Option.some.inj e
      refine (Tryz.slices_Clone_string b o (n + 1) c (xs.map str) w (by simp; omega) (by omega) (fun j hj => ?_)).mono ?_
      · have hj' : j < xs.length := by simpa using hj
        obtain ⟨b2, o2, e2, -, hc, -⟩ := txt_at h j hj'
        simp only [Option.some.injEq, Addr.mk.injEq, and_true] at e2
        obtain ⟨rfl, rfl⟩ := e2
        rw [hc]
        simp [List.getD, hj']
      · rintro e w' ⟨v, rfl, ho, -, hE⟩
        refine ⟨v, rfl, ?_, hE⟩
        have e2 : ((xs.map str).take (n + 1)).map Value.string = xs.map strV := by
          rw [List.take_of_length_le (by simp; omega), List.map_map]; rfl
        rw [e2] at ho
        unfold OwnT
        rw [← hl]; exact ho
theorem compact_txt {w : World} {base : Nat} {v : Value} {xs : List Str} (h : OwnT w base v xs) (hb : base ≤ w.heap.size) :
    Calls Tryz.prog 59 #[v] w fun e w' => ∃ v', e = .returned v' ∧ OwnT w' base v' (Lib.compact xs) ∧ Below base w w' := by
  by_cases hv : v = .slice none 0 0
  · subst hv
    have hx : xs = [] := by
      rcases h.2 with ⟨-, h0⟩ | ⟨g, cap, cur, e, -⟩
      · exact List.eq_nil_of_length_eq_zero h0
      · cases e
    subst hx
    refine (Tryz.slices_Compact_string_empty none 0 w).mono ?_
    rintro e w' ⟨rfl, rfl⟩
    exact ⟨_, rfl, World.ownsRow_nil _ _ _ 1, Below.refl _ _⟩
  · have h' : w.ownsRow base 9 1 v xs.length (xs.map encStr) := h
    obtain ⟨g, cap, rfl, hbg, hgl, hcap, hmax, -, hH⟩ := Lib.holds_of_ownsRow h' hv
    have hle := Lib.compact_length_le xs
    refine (Tryz.slices_Compact_string g 0 cap xs w hH (by simp only [maxLen] at hmax; omega) hcap).mono ?_
    rintro e w' ⟨rfl, q, rfl⟩
    have hc := Lib.ownsRow_putRow (q := q) (k := (Lib.compact xs).length) (ys := Lib.compact xs ++ List.replicate (xs.length - (Lib.compact xs).length) []) h' (by simp; omega) hle
    rw [List.take_left] at hc
    exact ⟨_, rfl, hc, Lib.below_putRow (Below.refl _ _) hbg⟩
set_option maxRecDepth 100000 in
set_option maxHeartbeats 4000000 in
theorem rise_at {w : World} {A : Option Addr} {n c : Nat} {xs : List Str} (h : SlR Rep.txt w (· < w.heap.size) A n c xs) (hn : n ≤ 1000000) :
    Calls Tryz.prog 57 #[.slice A n c] w fun e w' => e = .returned (.bool (riseB xs)) ∧ Ext w w' := by
  have Hn := hid h.1
  have H := hid h
  clear h
  go_enter Tryz.func57, Tryz.ntmps57
  go_wp2_with fail
  refine (isSorted_at H.out).mono ?_
  rintro e w1 ⟨hE, hr⟩
  have HE := hid hE
  clear hE
  rcases hr with ⟨rfl, hr⟩ | ⟨rfl, hr⟩
  · have Hr := hid (rise_compact hr)
    clear hr
    go_wp2_with fail
    refine (clone_txt (H.out.grow HE.out) hn).mono ?_
    rintro e w2 ⟨v, rfl, ho, hE2⟩
    have HO := hid ho
    have HE2 := hid (Ext.trans' HE.out hE2)
    have Hsz := hid hE2.size
    clear ho hE2
    go_wp2_with fail
    refine (compact_txt HO.out Hsz.out).mono ?_
    rintro e w3 ⟨v2, rfl, ho2, hB⟩
    have HE3 := hid (HE2.out.trans (hB.mono HE.out.size))
    obtain ⟨A2, c2, rfl, -⟩ := RV.own ho2
    clear ho2 hB
    generalize (Lib.compact xs).length = m at Hr ⊢
    have Hr2 := hid (show riseB xs = decide (m = n) by rw [Hr.out, Hn.out])
    clear Hr
    go_wp2
    go_ret
    exact ⟨by rw [Hr2.out]; show Ending.returned (Value.bool _) = _; congr 2; rw [Bool.eq_iff_iff, beq_iff_eq, decide_eq_true_eq]; omega, HE3.out⟩
  · have Hr := hid hr
    clear hr
    go_wp2
    go_ret
    exact ⟨by rw [Hr.out]; rfl, HE.out⟩
end Go.Proofs.YtpmmapcjohmniaaGreat
