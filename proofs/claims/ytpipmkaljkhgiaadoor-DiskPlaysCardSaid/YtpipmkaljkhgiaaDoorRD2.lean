/- The reference's disk: burn, May, at. -/
import Derived.Test.YtpipmkaljkhgiaaDoorRD1
namespace Go.Proofs.YtpipmkaljkhgiaaDoor
open Go Go.RowKit
set_option linter.unusedSimpArgs false
set_option linter.unusedVariables false

theorem burn_ref {w : World} {S : Nat → Prop} {y g : Nat} {q l : Int} {F : Files} (h : RefIs w S y g q l F) :
    Calls Tryd.prog 52 #[.pointer (some ⟨y, 0, none⟩)] w fun e w' => e = .returned (.bool (decide (l = 0))) ∧ RefIs w' S y g q (burnL l) F ∧ RStep w w' S S y g := by
  have H := hid h
  have c1 := h.left
  have c2 := h.free 1
  have hl := h.lr
  have Hfr := hid h.fresh
  have hfus : Hid (0 < l → RefIs (w.setCell ⟨y, 1, none⟩ (.int .i64 (l - 1))) S y g q (l - 1) F ∧ Kept2 y g w (w.setCell ⟨y, 1, none⟩ (.int .i64 (l - 1)))) := fun h0 => h.relit (l - 1) (by omega)
  clear h
  unfold burnL
  by_cases h0 : l = 0
  · subst h0
    go_enter Tryd.func52, Tryd.ntmps52
    go_wp2
    go_ret
    exact ⟨rfl, H.out, RStep.of_ext (Below.refl _ _) Hfr.out⟩
  have hne' : (l == 0) = false := by rw [beq_eq_false_iff_ne]; exact h0
  by_cases hp : 0 < l
  · have hw2 : IntKind.i64.wrap (l - 1) = l - 1 := by rw [IntKind.wrap_i64]; omega
    go_enter Tryd.func52, Tryd.ntmps52
    go_wp2
    go_ret
    exact ⟨rfl, (hfus.out hp).1, (hfus.out hp).2, fun _ _ => Iff.rfl, fun k hk => Hfr.out k (by simpa using hk)⟩
  · go_enter Tryd.func52, Tryd.ntmps52
    go_wp2
    go_ret
    exact ⟨rfl, by first | exact H.out | (rw [if_neg (by omega)]; exact H.out), RStep.of_ext (Below.refl _ _) Hfr.out⟩
theorem letters_iff (c : UInt8) : letters.contains c = true ↔ (97 ≤ c.toNat ∧ c.toNat ≤ 122) ∨ (48 ≤ c.toNat ∧ c.toNat ≤ 57) ∨ c.toNat = 95 := by
  have := c.toNat_lt
  simp [letters, ← UInt8.toNat_inj]
  omega
theorem run_index_str (nm : List UInt8) (k : Nat) (hk : k < nm.length) (t : TypeId) (w : World) (ht : Tryd.prog.underlying t = some .string) : (Instr.index t (.string (str nm)) (.int .i64 (k : Int))).run Tryd.prog w = .ok (.int .u8 ((nm[k]'hk).toNat : Int)) w := by
  rw [run_index_string w t (str nm) .i64 (k : Int) ht, dif_pos ⟨by omega, by rw [str_size]; omega⟩]
  rfl
def okByte (c : UInt8) : Bool := letters.contains c
set_option maxRecDepth 100000 in
set_option maxHeartbeats 2000000 in
theorem refMay_at (nm : List UInt8) (w : World) (hn : nm.length ≤ 9223372036854775807) :
    Calls Tryd.prog 29 #[.string (str nm)] w fun e w' => e = .returned (.bool (mayB nm)) ∧ w = w' := by
  have hl : ∀ w, (Builtin.len_ #[9] 3 #[.string (str nm)]).run Tryd.prog w = .ok (.int .i64 (nm.length : Int)) w := fun w => by go_simp; rfl
  go_enter Tryd.func29, Tryd.ntmps29
  go_wp2_with fail
  go_loop [3] (fun i => ∃ k : Nat, k ≤ nm.length ∧ i = .int .i64 (k : Int) ∧ Hid (∀ x ∈ nm.take k, letters.contains x = true)) (fun i => nm.length - (intOf i).toNat)
  case atStart => exact ⟨0, by omega, rfl, fun x hx => by simp at hx⟩
  case round =>
    obtain ⟨k, hk, rfl, HA⟩ := hrel
    by_cases hlt : k < nm.length
    · have hx := fun w => run_index_str nm k hlt 9 w Tryd.underlying9
      have Hts := hid (show nm.take (k + 1) = nm.take k ++ [nm[k]] by rw [List.take_succ_eq_append_getElem hlt])
      have hmem := hid (show nm[k] ∈ nm from List.getElem_mem _)
      have hiff := hid (letters_iff nm[k])
      have hclt := nm[k].toNat_lt
      generalize nm[k] = c at hx Hts hmem hiff hclt
      by_cases h1 : 97 ≤ c.toNat ∧ c.toNat ≤ 122
      · have hok := hid (hiff.out.2 (.inl h1))
        have g1 : (97 : Int) ≤ (c.toNat : Int) := by omega
        have g2 : (c.toNat : Int) ≤ 122 := by omega
        have hlt' : (k : Int) < (nm.length : Int) := by omega
        clear h1
        go_wp2
        go_round
        case rel => exact ⟨k + 1, by omega, by go_num, fun x hx => by rw [Hts.out] at hx; rcases List.mem_append.1 hx with h | h; exact HA.out x h; rw [List.mem_singleton.1 h]; exact hok.out⟩
        case measure => simp [intOf]; omega
      by_cases h2 : 48 ≤ c.toNat ∧ c.toNat ≤ 57
      · have hok := hid (hiff.out.2 (.inr (.inl h2)))
        have g0 : ¬ ((97 : Int) ≤ (c.toNat : Int)) := by omega
        have g1 : (48 : Int) ≤ (c.toNat : Int) := by omega
        have g2 : (c.toNat : Int) ≤ 57 := by omega
        have hlt' : (k : Int) < (nm.length : Int) := by omega
        clear h1 h2
        go_wp2
        go_round
        case rel => exact ⟨k + 1, by omega, by go_num, fun x hx => by rw [Hts.out] at hx; rcases List.mem_append.1 hx with h | h; exact HA.out x h; rw [List.mem_singleton.1 h]; exact hok.out⟩
        case measure => simp [intOf]; omega
      by_cases h3 : c.toNat = 95
      · have hok := hid (hiff.out.2 (.inr (.inr h3)))
        have hlt' : (k : Int) < (nm.length : Int) := by omega
        rw [h3] at hx
        clear h1 h2 h3 hclt
        go_wp2
        go_round
        case rel => exact ⟨k + 1, by omega, by go_num, fun x hx => by rw [Hts.out] at hx; rcases List.mem_append.1 hx with h | h; exact HA.out x h; rw [List.mem_singleton.1 h]; exact hok.out⟩
        case measure => simp [intOf]; omega
      · have hno : mayB nm = false := by
          unfold mayB
          have : nm.all (letters.contains ·) = false := by
            rw [List.all_eq_false]
            exact ⟨c, hmem.out, fun h => by have := hiff.out.1 h; omega⟩
          rw [this, Bool.and_false]
        have Hno := hid hno
        have hlt' : (k : Int) < (nm.length : Int) := by omega
        have h95 : ((c.toNat : Int) == 95) = false := by rw [beq_eq_false_iff_ne]; omega
        obtain ⟨z, hz⟩ : ∃ z, z = (c.toNat : Int) := ⟨_, rfl⟩
        have hcase : (¬ (97 ≤ z) ∧ ¬ (48 ≤ z)) ∨ (¬ (97 ≤ z) ∧ 48 ≤ z ∧ ¬ (z ≤ 57)) ∨ (97 ≤ z ∧ ¬ (z ≤ 122) ∧ 48 ≤ z ∧ ¬ (z ≤ 57)) := by omega
        rw [← hz] at hx h95
        clear h1 h2 h3 hno hclt hz
        rcases hcase with ⟨g1, g2⟩ | ⟨g1, g2, g3⟩ | ⟨g1, g2, g3, g4⟩
        all_goals
          go_wp2
          go_ret
          exact ⟨by rw [Hno.out]; rfl, rfl⟩
    · have hkn : k = nm.length := by omega
      subst hkn
      have hall : nm.all (letters.contains ·) = true := by
        rw [List.all_eq_true]
        intro x hx
        exact HA.out x (by rw [List.take_of_length_le (Nat.le_refl _)]; exact hx)
      have hm : mayB nm = (decide (0 < nm.length) && decide (nm.length ≤ 20)) := by unfold mayB; rw [hall, Bool.and_true]
      have Hm := hid hm
      clear hm hall
      by_cases h1 : 1 ≤ nm.length
      · by_cases h20 : nm.length ≤ 20
        · have g1 : (1 : Int) ≤ (nm.length : Int) := by omega
          have g2 : (nm.length : Int) ≤ 20 := by omega
          have Hm2 : Hid (mayB nm = true) := hid (Hm.out.trans (by rw [decide_eq_true (show 0 < nm.length by omega), decide_eq_true h20]; rfl))
          clear h1 h20
          go_wp2
          go_ret
          exact ⟨by rw [Hm2.out]; rfl, rfl⟩
        · have g1 : (1 : Int) ≤ (nm.length : Int) := by omega
          have g2 : ¬ ((nm.length : Int) ≤ 20) := by omega
          have Hm2 := hid (Hm.out.trans (by rw [decide_eq_false h20, Bool.and_false]))
          clear h1 h20
          go_wp2
          go_ret
          exact ⟨by rw [Hm2.out]; rfl, rfl⟩
      · have g1 : ¬ ((1 : Int) ≤ (nm.length : Int)) := by omega
        have Hm2 := hid (Hm.out.trans (by rw [decide_eq_false (show ¬ (0 < nm.length) by omega), Bool.false_and]))
        clear h1
        go_wp2
        go_ret
        exact ⟨by rw [Hm2.out]; rfl, rfl⟩
def idxF (F : Files) (nm : List UInt8) : Option Nat := F.findIdx? (·.1 == nm)
def idxI (F : Files) (nm : List UInt8) : Int := match idxF F nm with
  | some k => (k : Int)
  | none => -1
theorem idxI_found {F : Files} {nm : List UInt8} {k : Nat} (hk : k < F.length) (he : F[k].1 = nm) (hno : ∀ j (hj : j < k), (F[j]'(by omega)).1 ≠ nm) : idxI F nm = (k : Int) := by
  unfold idxI idxF
  have : F.findIdx? (·.1 == nm) = some k := by
    rw [List.findIdx?_eq_some_iff_getElem]
    exact ⟨hk, by simpa using he, fun j hj => by simpa using hno j hj⟩
  rw [this]
theorem idxI_none {F : Files} {nm : List UInt8} (hno : ∀ j (hj : j < F.length), F[j].1 ≠ nm) : idxI F nm = -1 := by
  unfold idxI idxF
  have : F.findIdx? (·.1 == nm) = none := by
    rw [List.findIdx?_eq_none_iff]
    intro p hp
    obtain ⟨j, hj, rfl⟩ := List.getElem_of_mem hp
    simpa using hno j hj
  rw [this]
set_option maxRecDepth 100000 in
set_option maxHeartbeats 2000000 in
theorem at_ref {w : World} {S : Nat → Prop} {y g : Nat} {q l : Int} {F : Files} (h : RefIs w S y g q l F) (nm : List UInt8) :
    Calls Tryd.prog 48 #[.pointer (some ⟨y, 0, none⟩), .string (str nm)] w fun e w' => e = .returned (.int .i64 (idxI F nm)) ∧ w = w' := by
  obtain ⟨v, c2, hO, -⟩ := h.row
  obtain ⟨A, c, cs, rfl, hc, hcm, -, -⟩ := hO.read
  have hfew := h.few
  have HO := hid hO
  have hst := str_toList
  obtain ⟨N, hN⟩ : ∃ N, N = F.length := ⟨_, rfl⟩
  rw [← hN] at c2 hfew HO hc
  have HN := hid hN
  clear h hO hN
  go_enter Tryd.func48, Tryd.ntmps48
  go_wp2_with fail
  go_loop [5] (fun i => ∃ k : Nat, k ≤ N ∧ i = .int .i64 (k : Int) ∧ Hid (∀ j (hj : j < k) (hj' : j < F.length), F[j].1 ≠ nm)) (fun i => N - (intOf i).toNat)
  case atStart => exact ⟨0, by omega, rfl, fun j hj => by omega⟩
  case round =>
    obtain ⟨k, hk, rfl, HA⟩ := hrel
    by_cases hlt : k < N
    · have hkF : k < F.length := by have := HN.out; omega
      obtain ⟨g0, c0, e0, -, -, -, -, -, hcell⟩ := HO.out.at_ (by omega)
      simp only [Value.slice.injEq] at e0
      obtain ⟨rfl, -, rfl⟩ := e0
      obtain ⟨d, hd, hcc⟩ := hcell k hkF
      obtain ⟨A1, c1, rfl, -⟩ := rfile_rel hd
      have f0 := hcc 0 _ rfl
      have hlt' : (k : Int) < (N : Int) := by omega
      have HFk := hid (show F[k].1 = F[k].1 from rfl)
      by_cases hnm : F[k].1 = nm
      · have hres := hid (idxI_found hkF hnm fun j hj => HA.out j hj (by omega))
        have heq : (F[k].1 == nm) = true := beq_iff_eq.2 hnm
        generalize F[k].1 = a at f0 heq
        have f0' : w.cell? ⟨g0, k * 3, none⟩ = some (.string (str a)) := f0
        clear hnm HFk f0 hcc hcell hd
        go_wp2
        go_ret
        exact ⟨by rw [hres.out]; rfl, rfl⟩
      · have Hnm := hid hnm
        have heq : (F[k].1 == nm) = false := beq_eq_false_iff_ne.2 hnm
        generalize hFk : F[k].1 = a at f0 heq
        have HFk := hid hFk
        have f0' : w.cell? ⟨g0, k * 3, none⟩ = some (.string (str a)) := f0
        clear hnm f0 hcc hcell hd hFk
        go_wp2
        go_round
        case rel => exact ⟨k + 1, by omega, by go_num, fun j hj hj' => by rcases Nat.lt_or_ge j k with h | h; exact HA.out j h hj'; (obtain rfl : j = k := by omega); exact Hnm.out⟩
        case measure => simp [intOf]; omega
    · obtain rfl : k = N := by omega
      have hres := hid (idxI_none fun j hj => HA.out j (by have := HN.out; omega) hj)
      go_wp2
      go_ret
      exact ⟨by rw [hres.out]; rfl, rfl⟩
end Go.Proofs.YtpipmkaljkhgiaaDoor
