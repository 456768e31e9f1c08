/- A projection's state: keeps, set, fits. -/
import Derived.Test.YtpmmapcjohmniaaGreatFo2
import Derived.Stop.Asserts
namespace Go.Proofs.YtpmmapcjohmniaaGreat
open Go Go.RowKit
set_option linter.unusedSimpArgs false
set_option linter.unusedVariables false

def fitsN (n : Int) : Bool := decide (-1125899906842624 ≤ n ∧ n ≤ 1125899906842624)
def setF (d : DefV) (key : Str) (n : Int) (D : Ents) : Ents := if n = 0 ∧ d.kind ≠ 3 then delI key D else putI key n D
theorem StIs.cells {w : World} {S : Nat → Prop} {s m : Nat} {kv : Value} {q : List ClV} {D : Ents} (h : StIs w S s m kv q D) :
    ∃ A c, w.cell? ⟨s, 0, none⟩ = some kv ∧ w.cell? ⟨s, 1, none⟩ = some (.slice A q.length c) ∧ w.cell? ⟨s, 2, none⟩ = some (.map (some m)) ∧ SlR RCl w (Out S w) A q.length c q := by
  obtain ⟨A, c, hr, hq⟩ := h.row
  refine ⟨A, c, ?_, ?_, ?_, hq⟩ <;> · rw [cell_of_row _ _ _ _ _ _ hr]; rfl
theorem fits_at (n : Int) (w : World) : Calls Tryz.prog 21 #[.int .i64 n] w fun e w' => e = .returned (.bool (fitsN n)) ∧ w' = w := by
  go_enter Tryz.func21, Tryz.ntmps21
  by_cases h1 : -1125899906842624 ≤ n
  · by_cases h2 : n ≤ 1125899906842624
    · have hr := hid (show fitsN n = true from decide_eq_true ⟨h1, h2⟩)
      go_wp2
      go_ret
      exact ⟨by rw [hr.out]; rfl, rfl⟩
    · have hr := hid (show fitsN n = false from decide_eq_false fun h => h2 h.2)
      go_wp2
      go_ret
      exact ⟨by rw [hr.out]; rfl, rfl⟩
  · have hr := hid (show fitsN n = false from decide_eq_false fun h => h1 h.1)
    go_wp2
    go_ret
    exact ⟨by rw [hr.out]; rfl, rfl⟩
set_option maxRecDepth 100000 in
theorem keeps_at {w : World} {S : Nat → Prop} {s m : Nat} {d : DefV} {q : List ClV} {D : Ents} (h : StIs w S s m (kdVal d) q D) :
    Calls Tryz.prog 22 #[.pointer (some ⟨s, 0, none⟩)] w fun e w' => e = .returned (.bool (decide (d.kind = 3))) ∧ w' = w := by
  obtain ⟨A, c, c0, -, -, -⟩ := h.cells
  clear h
  unfold kdVal at c0
  go_enter Tryz.func22, Tryz.ntmps22
  by_cases h2 : d.kind = 2
  · rw [if_pos h2] at c0
    have hr := hid (show decide (d.kind = 3) = false from decide_eq_false (by omega))
    have ha := run_typeAssert_lacksB (z := .nilIface) Tryz.underlying91 (t := 84) (by kernel_rfl) (by kernel_rfl) (.agg #[.string (str d.field)]) 60 w
    clear h2
    go_wp2
    go_ret
    exact ⟨by rw [hr.out]; rfl, rfl⟩
  by_cases h3 : d.kind = 3
  · rw [if_neg h2, if_pos h3] at c0
    have hr := hid (show decide (d.kind = 3) = true from decide_eq_true h3)
    have ha := run_typeAssert_hasB Tryz.underlying91 (t := 85) (by kernel_rfl) (.agg #[.string (str d.field)]) 60 w
    clear h2 h3
    go_wp2
    go_ret
    exact ⟨by rw [hr.out]; rfl, rfl⟩
  have hr := hid (show decide (d.kind = 3) = false from decide_eq_false h3)
  by_cases h4 : d.kind = 4
  · rw [if_neg h2, if_neg h3, if_pos h4] at c0
    have ha := run_typeAssert_lacksB (z := .nilIface) Tryz.underlying91 (t := 87) (by kernel_rfl) (by kernel_rfl) (.agg #[]) 60 w
    clear h2 h3 h4
    go_wp2
    go_ret
    exact ⟨by rw [hr.out]; rfl, rfl⟩
  · rw [if_neg h2, if_neg h3, if_neg h4] at c0
    have ha := run_typeAssert_lacksB (z := .nilIface) Tryz.underlying91 (t := 88) (by kernel_rfl) (by kernel_rfl) (.agg #[]) 60 w
    clear h2 h3 h4
    go_wp2
    go_ret
    exact ⟨by rw [hr.out]; rfl, rfl⟩
set_option maxRecDepth 100000 in
theorem set_at {w : World} {S : Nat → Prop} {s m : Nat} {d : DefV} {q : List ClV} {D : Ents} (h : StIs w S s m (kdVal d) q D) (key : Str) (n : Int) (hn : -9223372036854775808 ≤ n ∧ n ≤ 9223372036854775807) (hk : Short key) (hD : D.length < 1000000) :
    Calls Tryz.prog 122 #[.pointer (some ⟨s, 0, none⟩), .string (str key), .int .i64 n] w fun e w' => e = .returned (.tuple #[]) ∧ StIs w' S s m (kdVal d) q (setF d key n D) ∧ Kept2 s m w w' := by
  have hkp := keeps_at h
  obtain ⟨A, c, c0, c1, c2, -⟩ := h.cells
  have H := hid h
  clear c0 c1
  go_enter Tryz.func122, Tryz.ntmps122
  have hst : ∃ w', (Instr.mapUpdate 63 (.map (some m)) (.string (str key)) (.int .i64 n)).run Tryz.prog w = .ok () w' ∧ Hid (MapI w' m (putI key n D)) ∧ Hid (w.mapTurned w' m) := by
    obtain ⟨w', h1, h2, h3⟩ := h.map.store key n hn hk hD
    exact ⟨w', h1, hid h2, hid h3⟩
  clear h
  obtain ⟨w1, r1, M1, T1⟩ := hst
  by_cases h0 : n = 0
  · subst h0
    go_wp2_with fail
    refine hkp.mono ?_
    clear hkp
    rintro e w' ⟨rfl, rfl⟩
    by_cases h3 : d.kind = 3
    · have hr := hid (show setF d key 0 D = putI key 0 D by unfold setF; rw [if_neg (fun h => h.2 h3)])
      have h3b : decide (d.kind = 3) = true := decide_eq_true h3
      rw [h3b]
      go_wp2
      go_end0
      exact ⟨rfl, by rw [hr.out]; exact H.out.turn T1.out.grown M1.out, Kept2.of_grown T1.out.grown (.inr rfl)⟩
    · have hr := hid (show setF d key 0 D = delI key D by unfold setF; rw [if_pos ⟨rfl, h3⟩])
      have h3b : decide (d.kind = 3) = false := decide_eq_false h3
      rw [h3b]
      clear r1
      obtain ⟨w2, r2, M2, T2⟩ : ∃ w2, (∀ ty, (Builtin.delete_ #[63, 9] ty #[.map (some m), .string (str key)]).run Tryz.prog w' = .ok (.tuple #[]) w2) ∧ Hid (MapI w2 m (delI key D)) ∧ Hid (w'.mapTurned w2 m) := by
        obtain ⟨w2, a, b, c⟩ := H.out.map.drop key hk 0
        exact ⟨w2, fun ty => a, hid b, hid c⟩
      go_wp2
      refine bodyPost_ret (results_none rfl _ _ _) rfl ?_
      exact ⟨rfl, by rw [hr.out]; exact H.out.turn T2.out.grown M2.out, Kept2.of_grown T2.out.grown (.inr rfl)⟩
  · have hr := hid (show setF d key n D = putI key n D by unfold setF; rw [if_neg (fun h => h0 h.1)])
    clear hkp
    go_wp2
    go_end0
    exact ⟨rfl, by rw [hr.out]; exact H.out.turn T1.out.grown M1.out, Kept2.of_grown T1.out.grown (.inr rfl)⟩
end Go.Proofs.YtpmmapcjohmniaaGreat
