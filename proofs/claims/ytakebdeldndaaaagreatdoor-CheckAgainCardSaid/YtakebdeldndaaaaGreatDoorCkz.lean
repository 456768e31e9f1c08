/- Several texts of this claim's, one behind the other. -/
import Derived.Test.YtakebdeldndaaaaGreatDoorSv
import Derived.Test.YtakebdeldndaaaaGreatDoorMask
/- check.Clean. -/
namespace Go.Proofs.YtakebdeldndaaaaGreatDoor
open Go Go.RowKit
set_option linter.unusedSimpArgs false
set_option linter.unusedVariables false

def stepC (ds : List DefV) (most : Int) (nm : List UInt8) (l : Int) (F : Files) : Int × Int × Files :=
  if atF F nm = none ∨ (tryO ds F nm most).isSome = true then (0, l, F) else (knownEF l F nm, burnL l, dropF l F nm)
def restC (ds : List DefV) (most : Int) : Nat → Int → Files → Int × Int × Files
  | 0, l, F => (0, l, F)
  | n + 1, l, F => andS (stepC ds most (if n = 1 then nmN else nmC) l F) (restC ds most n)
def cleanS (ds : List DefV) (most : Int) (l : Int) (F : Files) : Int × Int × Files := if defsE ds ≠ 0 then (defsE ds, l, F) else restC ds most 2 l F
theorem restC_step (ds : List DefV) (most : Int) (n : Nat) (l : Int) (F : Files) : restC ds most (n + 1) l F = if (stepC ds most (if n = 1 then nmN else nmC) l F).1 = 0 then restC ds most n (stepC ds most (if n = 1 then nmN else nmC) l F).2.1 (stepC ds most (if n = 1 then nmN else nmC) l F).2.2 else stepC ds most (if n = 1 then nmN else nmC) l F := rfl
set_option maxRecDepth 100000 in
set_option maxHeartbeats 4000000 in
theorem ckClean_at {w : World} {S : Nat → Prop} {d m : Nat} {q l : Int} {F : Files} (h : DiskIs w S d m q l F) {A : Option Addr} {n c : Nat} {ds : List DefV} (hx : SlR RDef w (Out (fun k => k = d ∨ k = m) w) A n c ds) (most : Int) :
    Calls Tryz.prog 17 #[.pointer (some ⟨d, 0, none⟩), .slice A n c, .int .i64 most] w fun e w' => SvEnd w S d m q (cleanS ds most l F).1 (cleanS ds most l F).2.1 (cleanS ds most l F).2.2 e w' := by
  have H := hid h; have HX0 := hid hx
  have hpd := putDefsB_at (slR_out hx)
  clear h hx
  go_enter Tryz.func17, Tryz.ntmps17
  go_wp2_with fail
  refine hpd.mono ?_
  clear hpd
  rintro e w1 ⟨⟨v0, rfl, -⟩, hE⟩
  have HE0 := hid hE
  have HX := hid (slR_kept HX0.out (Kept2.of_ext (d := d) (m := m) hE) (.inl rfl) (.inr rfl))
  have HD0 := hid (H.out.ext hE)
  clear hE H HX0
  by_cases h0 : defsE ds = 0
  rotate_left
  · have hpost := hid (show SvEnd w S d m q (cleanS ds most l F).1 (cleanS ds most l F).2.1 (cleanS ds most l F).2.2 (.returned (.int .i64 (defsE ds))) w1 from by
      unfold cleanS
      rw [if_pos h0]
      exact ⟨rfl, HD0.out, Kept2.of_ext HE0.out⟩)
    obtain ⟨me, hme⟩ : ∃ me, me = defsE ds := ⟨_, rfl⟩
    have hx1 : (me != 0) = true := by rw [hme]; simpa using h0
    rw [← hme] at hpost ⊢
    clear h0 hme
    go_wp2
    go_ret
    exact hpost.out
  have H0 := hid h0
  rw [h0]
  have HC := hid (show cleanS ds most l F = restC ds most 2 l F from by unfold cleanS; rw [if_neg (by rw [h0]; exact fun h => h rfl)])
  clear h0
  go_wp2_with fail
  go_loopw [26] (fun i wr => ∃ (k : Nat) (l1 : Int) (F1 : Files), k ≤ 2 ∧ i = .int .i64 (k : Int) ∧ Hid (DiskIs wr S d m q l1 F1) ∧ Hid (Kept2 d m w1 wr) ∧ Hid (cleanS ds most l F = restC ds most (2 - k) l1 F1)) (fun i _ => 2 - (intOf i).toNat)
  case atStart => exact ⟨0, l, F, by omega, rfl, HD0, hid (Kept2.refl _ _ _), HC⟩
  case round =>
    obtain ⟨k, l1, F1, hk, rfl, HD, HK, HR⟩ := hrel
    by_cases h2 : k = 2
    · subst h2
      have hpost := hid (show SvEnd w S d m q (cleanS ds most l F).1 (cleanS ds most l F).2.1 (cleanS ds most l F).2.2 (.returned (.int .i64 0)) wr from by
        rw [HR.out]
        exact ⟨rfl, HD.out, (Kept2.of_ext HE0.out).trans HK.out⟩)
      go_wp2
      go_ret
      exact hpost.out
    by_cases h1 : k = 0
    · subst h1
      have hcc := readF_at HD.out nmN (by decide)
      have hix : ∀ w, (Instr.index 90 (.agg #[.string { data := #[99, 104, 101, 99, 107, 95, 110, 101, 119] }, .string { data := #[99, 104, 101, 99, 107] }]) (.int .i64 0)).run Tryz.prog w = .ok (.string { data := #[99, 104, 101, 99, 107, 95, 110, 101, 119] }) w := fun w => by kernel_rfl
      have hst := restC_step ds most (2 - 0 - 1) l1 F1
      rw [show (if 2 - 0 - 1 = 1 then nmN else nmC) = nmN from rfl] at hst
      go_wp2_with fail
      refine hcc.mono ?_
      clear hcc hix
      rintro e w2 ⟨v, rfl, hO, hE2⟩
      unfold readE
      unfold readB at hO
      cases hat : atF F1 nmN with
      | none =>
        have hno : stepC ds most nmN l1 F1 = (0, l1, F1) := by unfold stepC; rw [if_pos (.inl hat)]
        clear hO hat
        -- on to the next name
        have HR2 := hid (show cleanS ds most l F = restC ds most (2 - (0 + 1)) l1 F1 from by rw [HR.out, hst, hno]; exact if_pos rfl)
        have HD2 := hid (HD.out.ext hE2)
        have HK2 := hid (HK.out.trans (Kept2.of_ext hE2))
        clear hst hno hE2
        go_wp2_with fail
        go_roundw
        case rel => exact ⟨0 + 1, l1, F1, by omega, by go_num, HD2, HK2, HR2⟩
        case measure => simp [intOf]
      | some f =>
        rw [hat] at hO
        have hO : OB w2 wr.heap.size v f.b := hO
        have hlen := (HD.out.len hat).1
        obtain ⟨Ab, nb, cb, rfl, hnb, hcb, hRb⟩ := OB.rd hO
        have hcc := ckTake2_at (slR_out (slR_kept (slR_kept HX.out HK.out (.inl rfl) (.inr rfl)) (Kept2.of_ext (d := d) (m := m) hE2) (.inl rfl) (.inr rfl))) hnb hcb hRb (by omega)
        have Hat := hid hat
        clear hO hat hnb hlen hRb
        go_wp2_with fail
        refine hcc.mono ?_
        clear hcc
        rintro e w3 ⟨hE3, hans⟩
        have hE2 := hE2.trans' hE3
        clear hE3
        rcases hans with ⟨h0, rfl⟩ | ⟨-, htk, rfl⟩ | ⟨-, last, Es, p, L, S', htk, rfl, -, -, -⟩
        · exact absurd H0.out h0
        · have hno : stepC ds most nmN l1 F1 = (knownEF l1 F1 nmN, burnL l1, dropF l1 F1 nmN) := by
            have ht : tryO ds F1 nmN most = none := by unfold tryO; rw [Hat.out]; dsimp only; rw [htk]
            unfold stepC
            rw [if_neg (by rintro (h | h); rw [Hat.out] at h; cases h; rw [ht] at h; cases h)]
          clear htk
          -- it is removed
          have hcc := remove_at (HD.out.ext hE2) nmN (by decide)
          have HK2 := hid (HK.out.trans (Kept2.of_ext (d := d) (m := m) hE2))
          clear hE2
          go_wp2_with fail
          refine hcc.mono ?_
          clear hcc
          rintro e w4 ⟨rfl, hD4, hK4⟩
          have HD4 := hid hD4
          have HK4 := hid (HK2.out.trans hK4)
          have hst2 := HR.out.trans hst
          rw [hno] at hst2
          clear hst hno hD4 hK4
          generalize knownEF l1 F1 nmN = x at *
          generalize dropF l1 F1 nmN = F2 at *
          generalize burnL l1 = l2 at *
          by_cases hx : x = 0
          · subst hx
            have HR2 := hid (show cleanS ds most l F = restC ds most (2 - (0 + 1)) l2 F2 from by rw [hst2]; exact if_pos rfl)
            clear hst2
            go_wp2_with fail
            go_roundw
            case rel => exact ⟨0 + 1, l2, F2, by omega, by go_num, HD4, HK4, HR2⟩
            case measure => simp [intOf]
          · have hpost := hid (show SvEnd w S d m q (cleanS ds most l F).1 (cleanS ds most l F).2.1 (cleanS ds most l F).2.2 (.returned (.int .i64 x)) w4 from by
              rw [hst2, if_neg hx]
              exact ⟨rfl, HD4.out, (Kept2.of_ext HE0.out).trans HK4.out⟩)
            have hx1 : (x != 0) = true := by simpa using hx
            clear hst2 hx
            go_wp2
            go_ret
            exact hpost.out
        · by_cases hm : last ≤ most
          · have hno : stepC ds most nmN l1 F1 = (0, l1, F1) := by
              have ht : tryO ds F1 nmN most = some (last, Es) := by unfold tryO; rw [Hat.out]; dsimp only; rw [htk]; exact if_pos hm
              unfold stepC
              rw [if_pos (.inr (by rw [ht]; rfl))]
            clear htk
            -- on to the next name
            have HR2 := hid (show cleanS ds most l F = restC ds most (2 - (0 + 1)) l1 F1 from by rw [HR.out, hst, hno]; exact if_pos rfl)
            have HD2 := hid (HD.out.ext hE2)
            have HK2 := hid (HK.out.trans (Kept2.of_ext hE2))
            clear hst hno hE2
            go_wp2_with fail
            go_roundw
            case rel => exact ⟨0 + 1, l1, F1, by omega, by go_num, HD2, HK2, HR2⟩
            case measure => simp [intOf]
          · have hno : stepC ds most nmN l1 F1 = (knownEF l1 F1 nmN, burnL l1, dropF l1 F1 nmN) := by
              have ht : tryO ds F1 nmN most = none := by unfold tryO; rw [Hat.out]; dsimp only; rw [htk]; exact if_neg hm
              unfold stepC
              rw [if_neg (by rintro (h | h); rw [Hat.out] at h; cases h; rw [ht] at h; cases h)]
            clear htk
            -- it is removed
            have hcc := remove_at (HD.out.ext hE2) nmN (by decide)
            have HK2 := hid (HK.out.trans (Kept2.of_ext (d := d) (m := m) hE2))
            clear hE2
            go_wp2_with fail
            refine hcc.mono ?_
            clear hcc
            rintro e w4 ⟨rfl, hD4, hK4⟩
            have HD4 := hid hD4
            have HK4 := hid (HK2.out.trans hK4)
            have hst2 := HR.out.trans hst
            rw [hno] at hst2
            clear hst hno hD4 hK4
            generalize knownEF l1 F1 nmN = x at *
            generalize dropF l1 F1 nmN = F2 at *
            generalize burnL l1 = l2 at *
            by_cases hx : x = 0
            · subst hx
              have HR2 := hid (show cleanS ds most l F = restC ds most (2 - (0 + 1)) l2 F2 from by rw [hst2]; exact if_pos rfl)
              clear hst2
              go_wp2_with fail
              go_roundw
              case rel => exact ⟨0 + 1, l2, F2, by omega, by go_num, HD4, HK4, HR2⟩
              case measure => simp [intOf]
            · have hpost := hid (show SvEnd w S d m q (cleanS ds most l F).1 (cleanS ds most l F).2.1 (cleanS ds most l F).2.2 (.returned (.int .i64 x)) w4 from by
                rw [hst2, if_neg hx]
                exact ⟨rfl, HD4.out, (Kept2.of_ext HE0.out).trans HK4.out⟩)
              have hx1 : (x != 0) = true := by simpa using hx
              clear hst2 hx
              go_wp2
              go_ret
              exact hpost.out
    · obtain rfl : k = 1 := by omega
      have hcc := readF_at HD.out nmC (by decide)
      have hix : ∀ w, (Instr.index 90 (.agg #[.string { data := #[99, 104, 101, 99, 107, 95, 110, 101, 119] }, .string { data := #[99, 104, 101, 99, 107] }]) (.int .i64 1)).run Tryz.prog w = .ok (.string { data := #[99, 104, 101, 99, 107] }) w := fun w => by kernel_rfl
      have hst := restC_step ds most (2 - 1 - 1) l1 F1
      rw [show (if 2 - 1 - 1 = 1 then nmN else nmC) = nmC from rfl] at hst
      go_wp2_with fail
      refine hcc.mono ?_
      clear hcc hix
      rintro e w2 ⟨v, rfl, hO, hE2⟩
      unfold readE
      unfold readB at hO
      cases hat : atF F1 nmC with
      | none =>
        have hno : stepC ds most nmC l1 F1 = (0, l1, F1) := by unfold stepC; rw [if_pos (.inl hat)]
        clear hO hat
        -- on to the next name
        have HR2 := hid (show cleanS ds most l F = restC ds most (2 - (1 + 1)) l1 F1 from by rw [HR.out, hst, hno]; exact if_pos rfl)
        have HD2 := hid (HD.out.ext hE2)
        have HK2 := hid (HK.out.trans (Kept2.of_ext hE2))
        clear hst hno hE2
        go_wp2_with fail
        go_roundw
        case rel => exact ⟨1 + 1, l1, F1, by omega, by go_num, HD2, HK2, HR2⟩
        case measure => simp [intOf]
      | some f =>
        rw [hat] at hO
        have hO : OB w2 wr.heap.size v f.b := hO
        have hlen := (HD.out.len hat).1
        obtain ⟨Ab, nb, cb, rfl, hnb, hcb, hRb⟩ := OB.rd hO
        have hcc := ckTake2_at (slR_out (slR_kept (slR_kept HX.out HK.out (.inl rfl) (.inr rfl)) (Kept2.of_ext (d := d) (m := m) hE2) (.inl rfl) (.inr rfl))) hnb hcb hRb (by omega)
        have Hat := hid hat
        clear hO hat hnb hlen hRb
        go_wp2_with fail
        refine hcc.mono ?_
        clear hcc
        rintro e w3 ⟨hE3, hans⟩
        have hE2 := hE2.trans' hE3
        clear hE3
        rcases hans with ⟨h0, rfl⟩ | ⟨-, htk, rfl⟩ | ⟨-, last, Es, p, L, S', htk, rfl, -, -, -⟩
        · exact absurd H0.out h0
        · have hno : stepC ds most nmC l1 F1 = (knownEF l1 F1 nmC, burnL l1, dropF l1 F1 nmC) := by
            have ht : tryO ds F1 nmC most = none := by unfold tryO; rw [Hat.out]; dsimp only; rw [htk]
            unfold stepC
            rw [if_neg (by rintro (h | h); rw [Hat.out] at h; cases h; rw [ht] at h; cases h)]
          clear htk
          -- it is removed
          have hcc := remove_at (HD.out.ext hE2) nmC (by decide)
          have HK2 := hid (HK.out.trans (Kept2.of_ext (d := d) (m := m) hE2))
          clear hE2
          go_wp2_with fail
          refine hcc.mono ?_
          clear hcc
          rintro e w4 ⟨rfl, hD4, hK4⟩
          have HD4 := hid hD4
          have HK4 := hid (HK2.out.trans hK4)
          have hst2 := HR.out.trans hst
          rw [hno] at hst2
          clear hst hno hD4 hK4
          generalize knownEF l1 F1 nmC = x at *
          generalize dropF l1 F1 nmC = F2 at *
          generalize burnL l1 = l2 at *
          by_cases hx : x = 0
          · subst hx
            have HR2 := hid (show cleanS ds most l F = restC ds most (2 - (1 + 1)) l2 F2 from by rw [hst2]; exact if_pos rfl)
            clear hst2
            go_wp2_with fail
            go_roundw
            case rel => exact ⟨1 + 1, l2, F2, by omega, by go_num, HD4, HK4, HR2⟩
            case measure => simp [intOf]
          · have hpost := hid (show SvEnd w S d m q (cleanS ds most l F).1 (cleanS ds most l F).2.1 (cleanS ds most l F).2.2 (.returned (.int .i64 x)) w4 from by
              rw [hst2, if_neg hx]
              exact ⟨rfl, HD4.out, (Kept2.of_ext HE0.out).trans HK4.out⟩)
            have hx1 : (x != 0) = true := by simpa using hx
            clear hst2 hx
            go_wp2
            go_ret
            exact hpost.out
        · by_cases hm : last ≤ most
          · have hno : stepC ds most nmC l1 F1 = (0, l1, F1) := by
              have ht : tryO ds F1 nmC most = some (last, Es) := by unfold tryO; rw [Hat.out]; dsimp only; rw [htk]; exact if_pos hm
              unfold stepC
              rw [if_pos (.inr (by rw [ht]; rfl))]
            clear htk
            -- on to the next name
            have HR2 := hid (show cleanS ds most l F = restC ds most (2 - (1 + 1)) l1 F1 from by rw [HR.out, hst, hno]; exact if_pos rfl)
            have HD2 := hid (HD.out.ext hE2)
            have HK2 := hid (HK.out.trans (Kept2.of_ext hE2))
            clear hst hno hE2
            go_wp2_with fail
            go_roundw
            case rel => exact ⟨1 + 1, l1, F1, by omega, by go_num, HD2, HK2, HR2⟩
            case measure => simp [intOf]
          · have hno : stepC ds most nmC l1 F1 = (knownEF l1 F1 nmC, burnL l1, dropF l1 F1 nmC) := by
              have ht : tryO ds F1 nmC most = none := by unfold tryO; rw [Hat.out]; dsimp only; rw [htk]; exact if_neg hm
              unfold stepC
              rw [if_neg (by rintro (h | h); rw [Hat.out] at h; cases h; rw [ht] at h; cases h)]
            clear htk
            -- it is removed
            have hcc := remove_at (HD.out.ext hE2) nmC (by decide)
            have HK2 := hid (HK.out.trans (Kept2.of_ext (d := d) (m := m) hE2))
            clear hE2
            go_wp2_with fail
            refine hcc.mono ?_
            clear hcc
            rintro e w4 ⟨rfl, hD4, hK4⟩
            have HD4 := hid hD4
            have HK4 := hid (HK2.out.trans hK4)
            have hst2 := HR.out.trans hst
            rw [hno] at hst2
            clear hst hno hD4 hK4
            generalize knownEF l1 F1 nmC = x at *
            generalize dropF l1 F1 nmC = F2 at *
            generalize burnL l1 = l2 at *
            by_cases hx : x = 0
            · subst hx
              have HR2 := hid (show cleanS ds most l F = restC ds most (2 - (1 + 1)) l2 F2 from by rw [hst2]; exact if_pos rfl)
              clear hst2
              go_wp2_with fail
              go_roundw
              case rel => exact ⟨1 + 1, l2, F2, by omega, by go_num, HD4, HK4, HR2⟩
              case measure => simp [intOf]
            · have hpost := hid (show SvEnd w S d m q (cleanS ds most l F).1 (cleanS ds most l F).2.1 (cleanS ds most l F).2.2 (.returned (.int .i64 x)) w4 from by
                rw [hst2, if_neg hx]
                exact ⟨rfl, HD4.out, (Kept2.of_ext HE0.out).trans HK4.out⟩)
              have hx1 : (x != 0) = true := by simpa using hx
              clear hst2 hx
              go_wp2
              go_ret
              exact hpost.out
end Go.Proofs.YtakebdeldndaaaaGreatDoor

/- The law CheckSaves. -/
namespace Go.Proofs.YtakebdeldndaaaaGreatDoor
open Go Go.RowKit
set_option linter.unusedSimpArgs false
set_option linter.unusedVariables false

theorem ckB_big {ds : List DefV} {last : Int} {V : List (DefV × Ents)} {B : Int} {n : Nat} (hd : defsE ds = 0) (hl : 0 ≤ last ∧ last ≤ 1048576) (hf : FarV B 180 n V) : (setB V).length ≤ 10000000 := by
  have h2 := hf.size (by decide)
  omega
set_option maxRecDepth 100000 in
set_option maxHeartbeats 8000000 in
theorem checkSaves_in (A : Option Addr) (n c : Nat) (ds : List DefV) (la : Int) (A1 : Option Addr) (n1 c1 : Nat) (l1 : List EvV) (lb : Int) (A2 : Option Addr) (n2 c2 : Nat) (l2 : List EvV) (most : Int) (w : World) (hd : SlR RDef w (· < w.heap.size) A n c ds) (hl1 : SlR REv w (· < w.heap.size) A1 n1 c1 l1) (hl2 : SlR REv w (· < w.heap.size) A2 n2 c2 l2) (hmost : I64 most) :
    Calls Tryz.prog 6 #[.slice A n c, .agg #[.int .i64 la, .slice A1 n1 c1, .int .i64 lb, .slice A2 n2 c2], .int .i64 most] w fun e w' => e = .returned (.bool true) ∧ Below w.heap.size w w' := by
  have Hd := hid hd; have Hl1 := hid hl1; have Hl2 := hid hl2
  have hE0 := ext_alloc w (.cells #[.int .i64 la, .slice A1 n1 c1, .int .i64 lb, .slice A2 n2 c2] 59)
  have HE0 := hid hE0
  have HBx := hid (show ∀ W, Ext (w.alloc (.cells #[.int .i64 la, .slice A1 n1 c1, .int .i64 lb, .slice A2 n2 c2] 59)) W → W.cell? ⟨w.heap.size, 1, none⟩ = some (.slice A1 n1 c1) ∧ W.cell? ⟨w.heap.size, 3, none⟩ = some (.slice A2 n2 c2) from fun W hE => by
    have h1 := (hE.block w.heap.size (by simp)).trans (heap_alloc_last w (.cells #[.int .i64 la, .slice A1 n1 c1, .int .i64 lb, .slice A2 n2 c2] 59))
    constructor <;> · rw [cell_of_row _ _ _ _ _ _ h1]; rfl)
  clear hd hl1 hl2 hE0
  go_enter Tryz.func6, Tryz.ntmps6
  go_wp2_with fail
  generalize w.alloc (.cells #[.int .i64 la, .slice A1 n1 c1, .int .i64 lb, .slice A2 n2 c2] 59) = w0 at *
  obtain ⟨bx, hbx⟩ : ∃ bx, bx = w.heap.size := ⟨_, rfl⟩
  rw [← hbx] at HBx ⊢
  clear hbx
  refine (shown17_at w0).mono ?_
  rintro e w1 ⟨rfl, hE1⟩
  have HX1 := hid hE1
  have HE1 := hid (HE0.out.trans' hE1)
  clear hE1
  go_wp2_with fail
  refine (few_at (Hd.out.grow HE1.out)).mono ?_
  rintro e wx ⟨⟨n5, rfl, hn5, hd5⟩, hw⟩
  obtain rfl : w1 = wx := hw.symm
  have HD5 := hid hd5
  clear hw hd5
  generalize ds.take 5 = d5 at *
  obtain ⟨b1, b2⟩ := HBx.out w1 HX1.out
  have hcc := folded_at HD5.out (Hl1.out.grow HE1.out)
  go_wp2_with fail
  refine hcc.mono ?_
  clear hcc b1 b2
  rintro e w2 ⟨hE2, hans⟩
  have HX2 := hid (HX1.out.trans' hE2)
  have HE2 := hid (HE1.out.trans' hE2)
  have HD52 := hid (HD5.out.grow hE2)
  clear hE2
  obtain ⟨b1, b2⟩ := HBx.out w2 HX2.out
  have hcc := folded_at HD52.out (Hl2.out.grow HE2.out)
  rcases hans with ⟨h0, rfl⟩ | ⟨h0, p1, z1, L1, S1, rfl, hO1, hF1⟩
  · go_wp2_with fail
    refine hcc.mono ?_
    clear hcc b1 b2
    rintro e w3 ⟨hE3, hans⟩
    have HE3 := hid (HE2.out.trans' hE3)
    rcases hans with ⟨h1, rfl⟩ | ⟨h1, -⟩
    rotate_left
    · exact absurd h1 h0
    clear h0 h1 hE3
    go_wp2_with fail
    refine (newDisk_at 1048576).mono ?_
    rintro e w4 ⟨d, m, rfl, -, -, -, hE4⟩
    have HE4 := hid (HE3.out.trans' hE4)
    clear hE4
    go_wp2
    go_ret
    exact ⟨rfl, HE4.out⟩
  have H0 := hid h0
  have HO1 := hid hO1
  have HF1 := hid hF1
  clear h0 hO1 hF1
  go_wp2_with fail
  refine hcc.mono ?_
  clear hcc b1 b2
  rintro e w3 ⟨hE3, hans⟩
  have HE3 := hid (HE2.out.trans' hE3)
  rcases hans with ⟨h1, -⟩ | ⟨-, p2, z2, L2, S2, rfl, hO2, hF2⟩
  · exact absurd H0.out h1
  have HO1 := hid (HO1.out.ext hE3)
  have HO2 := hid hO2
  have HF2 := hid hF2
  have HD53 := hid (HD52.out.grow hE3)
  have Hfst1 := hid HF1.out.fst
  have Hfst2 := hid HF2.out.fst
  have Hfar1 := hid (HF1.out.far (defsE_zero H0.out).1 (Nat.le_refl _))
  have Hfar2 := hid (HF2.out.far (defsE_zero H0.out).1 (Nat.le_refl _))
  have Hok1 := hid (FoldedV.loads HO1.out.A HF1.out (Nat.le_refl _))
  have Hok2 := hid (FoldedV.loads HO2.out.A HF2.out (Nat.le_refl _))
  have HP1 := hid (Hfar1.out.put (by decide))
  have HP2 := hid (Hfar2.out.put (by decide))
  have Hb1 := hid (ckB_file (last := 3) H0.out (by decide) HF1.out)
  have Hb2 := hid (ckB_file (last := 7) H0.out (by decide) HF2.out)
  have Hz1 := hid (ckB_big (last := 3) H0.out (by decide) Hfar1.out)
  have Hz2 := hid (ckB_big (last := 7) H0.out (by decide) Hfar2.out)
  have Hv1 := hid (show (viewP L1).length = d5.length from by rw [← Hfst1.out, List.length_map])
  have Hv2 := hid (show (viewP L2).length = d5.length from by rw [← Hfst2.out, List.length_map])
  clear hE3 hO2 hF2
  go_wp2_with fail
  refine (newDisk_at 1048576).mono ?_
  rintro e w4 ⟨d, m, rfl, hd1, hm1, hDk, hE4⟩
  have HR := hid (Run.made (w0 := w3) (w1 := w3) (Below.refl _ _) hd1 hm1 hDk hE4)
  have HD54 := hid (HD53.out.grow hE4)
  clear hd1 hm1 hDk hE4
  rw [show max (1048576 : Int) 0 = 1048576 by decide] at HR
  have hcc := ckPut_at (HO1.out.ext HR.out.below).A HD54.out (last := 3) (by unfold I64; omega) HP1.out Hz1.out
  go_wp2_with fail
  refine hcc.mono ?_
  clear hcc
  rintro e w5 ⟨hE5, hans⟩
  rcases hans with ⟨h, -⟩ | ⟨-, hbad, rfl⟩ | ⟨-, -, v1, rfl, hOb1⟩
  · exact absurd H0.out h
  · exfalso
    have := Hv1.out
    rcases hbad with h | h | h
    · omega
    · omega
    · exact h this
  obtain ⟨B1, k1, rfl, hk1, hRb1⟩ := rs_own hOb1 HR.out.is.fresh
  have HR5 := hid (HR.out.ext hE5)
  have HRb1 := hid hRb1
  have HD55 := hid (HD54.out.grow hE5)
  have Hld1 := hid (fun most k => load_put (most := most) (k := k) H0.out (show (0 : Int) ≤ 3 ∧ (3 : Int) ≤ 1048576 by decide) Hfst1.out HP1.out Hok1.out)
  have Hld2 := hid (fun most k => load_put (most := most) (k := k) H0.out (show (0 : Int) ≤ 7 ∧ (7 : Int) ≤ 1048576 by decide) Hfst2.out HP2.out Hok2.out)
  clear hOb1 hRb1 hE5 HR HD54
  generalize Crc.seal_ (ckB d5 3 (viewP L1)) = x1 at *
  generalize hx1 : x1.length = m1 at *
  have Hx1 := hid hx1
  clear hx1
  have hcc := ckPut_at (HO2.out.ext HR5.out.below).A HD55.out (last := 7) (by unfold I64; omega) HP2.out Hz2.out
  go_wp2_with fail
  refine hcc.mono ?_
  clear hcc
  rintro e w6 ⟨hE6, hans⟩
  rcases hans with ⟨h, -⟩ | ⟨-, hbad, rfl⟩ | ⟨-, -, v2, rfl, hOb2⟩
  · exact absurd H0.out h
  · exfalso
    have := Hv2.out
    rcases hbad with h | h | h
    · omega
    · omega
    · exact h this
  obtain ⟨B2, k2, rfl, hk2, hRb2⟩ := rs_own hOb2 HR5.out.is.fresh
  have HR6 := hid (HR5.out.ext hE6)
  have HRb1 := hid (RS.kept HRb1.out (Kept2.of_ext (d := d) (m := m) hE6) (.inl rfl) (.inr rfl))
  have HRb2 := hid hRb2
  have HD56 := hid (HD55.out.grow hE6)
  clear hOb2 hRb2 hE6 HR5 HD55
  generalize Crc.seal_ (ckB d5 7 (viewP L2)) = x2 at *
  generalize hx2 : x2.length = m2 at *
  have Hx2 := hid hx2
  clear hx2
  have hm1 : m1 ≤ 65500 := Hb1.out
  have hm2 : m2 ≤ 65500 := Hb2.out
  have hcc := save_at HR6.out.is Hx1.out.symm (by omega) (c := k1) HRb1.out
  rw [save_empty (q := 1048576) (b := x1) (by rw [Hx1.out]; omega) (by rw [Hx1.out]; omega)] at hcc
  go_wp2_with fail
  refine hcc.mono ?_
  clear hcc
  rintro e w7 ⟨rfl, hD7, hK7⟩
  have HR7 := hid (HR6.out.next hD7 hK7)
  have HRb2 := hid (RS.kept HRb2.out hK7 (.inl rfl) (.inr rfl))
  have HE7 := hid (HE3.out.trans' HR7.out.below)
  clear hD7 hK7 HR6 HRb1
  rw [Hx1.out] at HR7
  have hcc := ckLoad_at HR7.out.is (HD53.out.grow HR7.out.below) 100
  go_wp2_with fail
  refine hcc.mono ?_
  clear hcc
  rintro e w8 ⟨hE8, hans⟩
  rcases hans with ⟨h, -⟩ | ⟨-, n8, p8, L8, S8, rfl, hv8, -, hHi8⟩
  · exact absurd H0.out h
  rw [Hld1.out 100 m1, if_pos (by decide)] at hv8
  simp only [Prod.mk.injEq] at hv8
  obtain ⟨rfl, hv8⟩ := hv8
  have hd7 := HR7.out.is.str.lt
  have hm7 : m < w7.heap.size := by obtain ⟨G, hG, -⟩ := HR7.out.is.map; exact hG.lt
  have HR8 := hid (HR7.out.ext hE8)
  have HRb2 := hid (RS.kept HRb2.out (Kept2.of_ext (d := d) (m := m) hE8) (.inl rfl) (.inr rfl))
  have HHi := hid hHi8
  have Hv8 := hid hv8
  have Hdm := hid (show d < w7.heap.size ∧ m < w7.heap.size from ⟨hd7, hm7⟩)
  clear hE8 hHi8 hv8 HR7 hd7 hm7
  have hcc := save_at HR8.out.is Hx2.out.symm (by omega) (c := k2) HRb2.out
  rw [save_over (q := 1048576) (b := x2) (by rw [Hx2.out]; omega) (by rw [Hx1.out, Hx2.out]; omega)] at hcc
  go_wp2_with fail
  refine hcc.mono ?_
  clear hcc
  rintro e w9 ⟨rfl, hD9, hK9⟩
  have HR9 := hid (HR8.out.next hD9 hK9)
  have HHi9 := hid (HHi.out.kept hK9 Hdm.out.1 Hdm.out.2)
  clear hD9 hK9 HR8 HRb2 HHi
  go_wp2_with fail
  refine (crash_at HR9.out.is 0 (by decide)).mono ?_
  rintro e w10 ⟨rfl, hD10, hK10⟩
  rw [crash_safe] at hD10
  have HR10 := hid (HR9.out.next hD10 hK10)
  have HHi10 := hid (HHi9.out.kept hK10 Hdm.out.1 Hdm.out.2)
  clear hD10 hK10 HR9 HHi9
  rw [Hx2.out] at HR10
  have hcc := ckLoad_at HR10.out.is (HD53.out.grow HR10.out.below) most
  go_wp2_with fail
  refine hcc.mono ?_
  clear hcc
  rintro e w11 ⟨hE11, hans⟩
  rcases hans with ⟨h, -⟩ | ⟨-, n11, p11, L11, S11, rfl, hv11, hO11, -⟩
  · exact absurd H0.out h
  rw [Hld2.out most m2] at hv11
  have HR11 := hid (HR10.out.ext hE11)
  have HHi11 := hid (HHi10.out.ext hE11)
  have HO11 := hid hO11
  clear hE11 hO11 HR10 HHi10
  obtain ⟨⟨Sp, hSp, -⟩, -, -⟩ := HHi11.out
  have HSp := hid hSp
  have HO1b := hid (HO1.out.ext HR11.out.below)
  have HO2b := hid (HO2.out.ext HR11.out.below)
  have HE11 := hid (HE3.out.trans' HR11.out.below)
  clear hSp HHi11
  have HPp := hid (show PutFit (viewP L8) by rw [Hv8.out]; exact HP1.out)
  have hs1 := states_at HSp.out HPp.out
  rw [Hv8.out] at hs1
  have hstep : ∀ W, Ext w11 W → Calls Tryz.prog 24 #[.pointer (some ⟨p1, 0, none⟩)] W fun e w' => e = .returned (.string (str (setB (viewP L1)))) ∧ Ext W w' := fun W hE => states_at (HO1b.out.A.ext hE) HP1.out
  have Hs1 := hid hs1; have Hstep := hid hstep
  have Hlist := hid (fun W (hE : Ext w11 W) => list_at (HR11.out.is.ext hE))
  clear hs1 hstep
  generalize setB (viewP L1) = y1 at *
  by_cases h7 : 7 ≤ most
  · rw [if_pos h7] at hv11
    simp only [Prod.mk.injEq] at hv11
    obtain ⟨rfl, hv11⟩ := hv11
    have Hv11 := hid hv11
    have HPq := hid (show PutFit (viewP L11) by rw [Hv11.out]; exact HP2.out)
    have Hq := hid (fun W (hE : Ext w11 W) => states_at (HO11.out.A.ext hE) HPq.out)
    have Ht := hid (fun W (hE : Ext w11 W) => states_at (HO2b.out.A.ext hE) HP2.out)
    rw [Hv11.out] at Hq
    generalize setB (viewP L2) = y2 at *
    clear hv11
    have hcc := Hs1.out
    go_wp2_with fail
    refine hcc.mono ?_
    clear hcc
    rintro e w12 ⟨rfl, hE⟩
    have HEs := hid hE
    clear hE
    have hcc := Hstep.out w12 HEs.out
    go_wp2_with fail
    refine hcc.mono ?_
    clear hcc
    rintro e w13 ⟨rfl, hE⟩
    have HEs := hid (HEs.out.trans' hE)
    clear hE
    have hcc := Hq.out w13 HEs.out
    go_wp2_with fail
    refine hcc.mono ?_
    clear hcc
    rintro e w14 ⟨rfl, hE⟩
    have HEs := hid (HEs.out.trans' hE)
    clear hE
    have hcc := Ht.out w14 HEs.out
    go_wp2_with fail
    refine hcc.mono ?_
    clear hcc
    rintro e w15 ⟨rfl, hE⟩
    have HEs := hid (HEs.out.trans' hE)
    clear hE
    have hcc := Hlist.out w15 HEs.out
    go_wp2_with fail
    refine hcc.mono ?_
    clear hcc
    rintro e w16 hlst
    obtain ⟨v, rfl, hOw, hE⟩ := hlst
    obtain ⟨Av, cv, rfl, -⟩ := hOw.read
    rw [show (List.map (fun x => x.1) [(nmC, (⟨x2, m2⟩ : File))]).length = 1 from rfl]
    have HEv := hid (HEs.out.trans' hE)
    clear hOw hE
    have HE16 := hid (HE11.out.trans' HEv.out)
    go_wp2
    go_ret
    exact ⟨rfl, HE16.out⟩
  · rw [if_neg h7] at hv11
    simp only [Prod.mk.injEq] at hv11
    obtain ⟨rfl, hv11⟩ := hv11
    clear hv11
    have hcc := Hs1.out
    go_wp2_with fail
    refine hcc.mono ?_
    clear hcc
    rintro e w12 ⟨rfl, hE⟩
    have HEs := hid hE
    clear hE
    have hcc := Hstep.out w12 HEs.out
    go_wp2_with fail
    refine hcc.mono ?_
    clear hcc
    rintro e w13 ⟨rfl, hE⟩
    have HEs := hid (HEs.out.trans' hE)
    clear hE
    have hcc := Hlist.out w13 HEs.out
    go_wp2_with fail
    refine hcc.mono ?_
    clear hcc
    rintro e w16 hlst
    obtain ⟨v, rfl, hOw, hE⟩ := hlst
    obtain ⟨Av, cv, rfl, -⟩ := hOw.read
    rw [show (List.map (fun x => x.1) [(nmC, (⟨x2, m2⟩ : File))]).length = 1 from rfl]
    have HEv := hid (HEs.out.trans' hE)
    clear hOw hE
    have HE16 := hid (HE11.out.trans' HEv.out)
    go_wp2
    go_ret
    exact ⟨rfl, HE16.out⟩
end Go.Proofs.YtakebdeldndaaaaGreatDoor

/- The law CheckAgain. -/
namespace Go.Proofs.YtakebdeldndaaaaGreatDoor
open Go Go.RowKit
set_option linter.unusedSimpArgs false
set_option linter.unusedVariables false

theorem clean_good {ds : List DefV} {f : File} {most : Int} {l : Int} {r : Int × List Ents} (hd : defsE ds = 0) (h : tryO ds [(nmC, f)] nmC most = some r) : cleanS ds most l [(nmC, f)] = (0, l, [(nmC, f)]) := by
  unfold cleanS
  rw [if_neg (by rw [hd]; exact fun h => h rfl)]
  have e1 : stepC ds most nmN l [(nmC, f)] = (0, l, [(nmC, f)]) := by unfold stepC; rw [if_pos (.inl (at_C_N f))]
  have e2 : stepC ds most nmC l [(nmC, f)] = (0, l, [(nmC, f)]) := by unfold stepC; rw [if_pos (.inr (by rw [h]; rfl))]
  rw [show restC ds most 2 l [(nmC, f)] = andS (stepC ds most nmN l [(nmC, f)]) (restC ds most 1) from rfl, e1]
  show restC ds most 1 l [(nmC, f)] = _
  rw [show restC ds most 1 l [(nmC, f)] = andS (stepC ds most nmC l [(nmC, f)]) (restC ds most 0) from rfl, e2]
  rfl
theorem try_put {ds : List DefV} {last most : Int} {V : List (DefV × Ents)} {k : Nat} (hd : defsE ds = 0) (hl : 0 ≤ last ∧ last ≤ 1048576) (hV : V.map (·.1) = ds) (hf : PutFit V) (hok : ∀ x ∈ V, okE x.1 x.2 = true) (hm : last ≤ most) :
    tryO ds [(nmC, ⟨Crc.seal_ (ckB ds last V), k⟩)] nmC most = some (last, V.map (·.2)) := by
  unfold tryO
  rw [atF_one]
  dsimp only
  rw [take_put hd hl hV hf hok]
  exact if_pos hm
set_option maxRecDepth 100000 in
set_option maxHeartbeats 8000000 in
theorem checkAgain_in (A : Option Addr) (n c : Nat) (ds : List DefV) (A1 : Option Addr) (n1 c1 : Nat) (l : List EvV) (x0 : Int) (w : World) (hd : SlR RDef w (· < w.heap.size) A n c ds) (hl : SlR REv w (· < w.heap.size) A1 n1 c1 l) (hx0 : I64 x0) :
    Calls Tryz.prog 7 #[.slice A n c, .slice A1 n1 c1, .int .i64 x0] w fun e w' => e = .returned (.bool true) ∧ Below w.heap.size w w' := by
  have Hd := hid hd; have Hl := hid hl
  obtain ⟨z, hz, hzb⟩ := mask_bits x0 511 (by decide)
  have hzb : bits .and .i64 x0 511 = (z : Int) := hzb
  clear hd hl
  go_enter Tryz.func7, Tryz.ntmps7
  go_wp2_with fail
  refine (shown17_at w).mono ?_
  rintro e w1 ⟨rfl, hE1⟩
  have HE1 := hid hE1
  clear hE1
  go_wp2_with fail
  refine (few_at (Hd.out.grow HE1.out)).mono ?_
  rintro e wx ⟨⟨n5, rfl, hn5, hd5⟩, hw⟩
  obtain rfl : w1 = wx := hw.symm
  have HD5 := hid hd5
  clear hw hd5
  generalize ds.take 5 = d5 at *
  have hcc := folded_at HD5.out (Hl.out.grow HE1.out)
  go_wp2_with fail
  refine hcc.mono ?_
  clear hcc
  rintro e w3 ⟨hE3, hans⟩
  have HE3 := hid (HE1.out.trans' hE3)
  have HD53 := hid (HD5.out.grow hE3)
  clear hE3
  rcases hans with ⟨h0, rfl⟩ | ⟨h0, p1, z1, L1, S1, rfl, hO1, hF1⟩
  · clear h0
    go_wp2_with fail
    refine (newDisk_at 1048576).mono ?_
    rintro e w4 ⟨d, m, rfl, -, -, -, hE4⟩
    have HE4 := hid (HE3.out.trans' hE4)
    clear hE4
    go_wp2
    go_ret
    exact ⟨rfl, HE4.out⟩
  have H0 := hid h0
  have HO1 := hid hO1
  have HF1 := hid hF1
  have Hfst1 := hid HF1.out.fst
  have Hfar1 := hid (HF1.out.far (defsE_zero H0.out).1 (Nat.le_refl _))
  have Hok1 := hid (FoldedV.loads HO1.out.A HF1.out (Nat.le_refl _))
  have HP1 := hid (Hfar1.out.put (by decide))
  have hzi : (0 : Int) ≤ (z : Int) ∧ (z : Int) ≤ 1048576 := by omega
  have Hb1 := hid (ckB_file (last := (z : Int)) H0.out hzi HF1.out)
  have Hz1 := hid (ckB_big (last := (z : Int)) H0.out hzi Hfar1.out)
  have Hv1 := hid (show (viewP L1).length = d5.length from by rw [← Hfst1.out, List.length_map])
  clear h0 hO1 hF1
  go_wp2_with fail
  refine (newDisk_at 1048576).mono ?_
  rintro e w4 ⟨d, m, rfl, hd1, hm1, hDk, hE4⟩
  have HR := hid (Run.made (w0 := w3) (w1 := w3) (Below.refl _ _) hd1 hm1 hDk hE4)
  have HD54 := hid (HD53.out.grow hE4)
  have Hdm := hid (show w3.heap.size ≤ d ∧ w3.heap.size ≤ m from ⟨hd1, hm1⟩)
  clear hd1 hm1 hDk hE4
  rw [show max (1048576 : Int) 0 = 1048576 by decide] at HR
  have hcc := ckPut_at (HO1.out.ext HR.out.below).A HD54.out (last := (z : Int)) (by unfold I64; omega) HP1.out Hz1.out
  go_wp2_with fail
  refine hcc.mono ?_
  clear hcc
  rintro e w5 ⟨hE5, hans⟩
  rcases hans with ⟨h, -⟩ | ⟨-, hbad, rfl⟩ | ⟨-, -, v1, rfl, hOb1⟩
  · exact absurd H0.out h
  · exfalso
    have := Hv1.out
    rcases hbad with h | h | h
    · omega
    · omega
    · exact h this
  obtain ⟨B1, k1, rfl, hk1, hRb1⟩ := rs_own hOb1 HR.out.is.fresh
  have HR5 := hid (HR.out.ext hE5)
  have HRb1 := hid hRb1
  have Hld1 := hid (fun most k => load_put (most := most) (k := k) H0.out hzi Hfst1.out HP1.out Hok1.out)
  have Htr1 := hid (fun most k hm => try_put (most := most) (k := k) H0.out hzi Hfst1.out HP1.out Hok1.out hm)
  have HCk := hid (show Crc.seal_ (ckB d5 (z : Int) (viewP L1)) = Crc.seal_ (ckB d5 (z : Int) (viewP L1)) from rfl)
  clear hOb1 hRb1 hE5 HR HD54
  generalize hxx : Crc.seal_ (ckB d5 (z : Int) (viewP L1)) = x1 at *
  have Hxx := hid hxx
  clear hxx HCk
  generalize hx1 : x1.length = m1 at *
  have Hx1 := hid hx1
  clear hx1
  have hm1 : m1 ≤ 65500 := Hb1.out
  have hcc := save_at HR5.out.is Hx1.out.symm (by omega) (c := k1) HRb1.out
  rw [save_empty (q := 1048576) (b := x1) (by rw [Hx1.out]; omega) (by rw [Hx1.out]; omega)] at hcc
  go_wp2_with fail
  refine hcc.mono ?_
  clear hcc
  rintro e w7 ⟨rfl, hD7, hK7⟩
  have HR7 := hid (HR5.out.next hD7 hK7)
  have HRb1 := hid (RS.kept HRb1.out hK7 (.inl rfl) (.inr rfl))
  clear hD7 hK7 HR5
  rw [Hx1.out] at HR7
  have hargs : ∀ W, Ext w3 W → SlR RDef W (Out (fun k => k = d ∨ k = m) W) A n5 c d5 := fun W hE =>
    (HD53.out.ext fun k hk => hE.block k hk).mono fun k hk => ⟨Nat.lt_of_lt_of_le hk hE.size, by have := Hdm.out; rintro (rfl | rfl) <;> omega⟩
  have Hargs := hid hargs
  clear hargs
  have hcc := ckClean_at HR7.out.is (Hargs.out w7 HR7.out.below) (z : Int)
  rw [clean_good H0.out (Htr1.out (z : Int) m1 (Int.le_refl _))] at hcc
  go_wp2_with fail
  refine hcc.mono ?_
  clear hcc
  rintro e w8 ⟨rfl, hD8, hK8⟩
  have HR8 := hid (HR7.out.next hD8 hK8)
  have HRb1 := hid (RS.kept HRb1.out hK8 (.inl rfl) (.inr rfl))
  clear hD8 hK8 HR7
  have hcc := ckLoad_at HR8.out.is (HD53.out.grow HR8.out.below) (z : Int)
  go_wp2_with fail
  refine hcc.mono ?_
  clear hcc
  rintro e w9 ⟨hE9, hans⟩
  rcases hans with ⟨h, -⟩ | ⟨-, n9, p9, L9, S9, rfl, hv9, hO9, -⟩
  · exact absurd H0.out h
  rw [Hld1.out (z : Int) m1, if_pos (Int.le_refl _)] at hv9
  simp only [Prod.mk.injEq] at hv9
  obtain ⟨rfl, hv9⟩ := hv9
  have HR9 := hid (HR8.out.ext hE9)
  have HRb1 := hid (RS.kept HRb1.out (Kept2.of_ext (d := d) (m := m) hE9) (.inl rfl) (.inr rfl))
  clear hE9 HR8
  have hcc := ckPut_at hO9.A (HD53.out.grow HR9.out.below) (last := (z : Int)) (by unfold I64; omega) (by rw [hv9]; exact HP1.out) (by rw [hv9]; exact Hz1.out)
  rw [hv9] at hcc
  clear hv9 hO9
  go_wp2_with fail
  refine hcc.mono ?_
  clear hcc
  rintro e w10 ⟨hE10, hans⟩
  rcases hans with ⟨h, -⟩ | ⟨-, hbad, rfl⟩ | ⟨-, -, v2, rfl, hOb2⟩
  · exact absurd H0.out h
  · exfalso
    have := Hv1.out
    rcases hbad with h | h | h
    · omega
    · omega
    · exact h this
  rw [Hxx.out] at hOb2
  obtain ⟨B2, k2, rfl, hk2, hRb2⟩ := rs_own hOb2 HR9.out.is.fresh
  have HR10 := hid (HR9.out.ext hE10)
  have HRb1 := hid (RS.kept HRb1.out (Kept2.of_ext (d := d) (m := m) hE10) (.inl rfl) (.inr rfl))
  have HRb2 := hid hRb2
  rw [Hx1.out]
  clear hOb2 hRb2 hE10 HR9
  have hcc := save_at HR10.out.is Hx1.out.symm (by omega) (c := k2) HRb2.out
  rw [save_over (q := 1048576) (b := x1) (by rw [Hx1.out]; omega) (by rw [Hx1.out]; omega)] at hcc
  go_wp2_with fail
  refine hcc.mono ?_
  clear hcc
  rintro e w11 ⟨rfl, hD11, hK11⟩
  have HR11 := hid (HR10.out.next hD11 hK11)
  have HRb1 := hid (RS.kept HRb1.out hK11 (.inl rfl) (.inr rfl))
  have HRb2 := hid (RS.kept HRb2.out hK11 (.inl rfl) (.inr rfl))
  clear hD11 hK11 HR10
  rw [Hx1.out] at HR11
  have hcc := readF_at HR11.out.is nmC (by decide)
  unfold readE readB at hcc
  rw [atF_one] at hcc
  go_wp2_with fail
  refine hcc.mono ?_
  clear hcc
  rintro e w12 ⟨v3, rfl, hO3, hE12⟩
  have hO3 : OB w12 w11.heap.size v3 x1 := hO3
  obtain ⟨B3, m3, k3, rfl, hm3, hk3, hRb3⟩ := OB.rd hO3
  rw [Hx1.out] at hm3
  have hm4 := hm3.symm
  clear hm3
  subst hm4
  have HR12 := hid (HR11.out.ext hE12)
  have hs1 := run_str (RK.toRB (RS.kept HRb1.out (Kept2.of_ext (d := d) (m := m) hE12) (.inl rfl) (.inr rfl))) k1
  have hs2 := run_str (RK.toRB (RS.kept HRb2.out (Kept2.of_ext (d := d) (m := m) hE12) (.inl rfl) (.inr rfl))) k2
  have hs3 := run_str hRb3 k3
  rw [Hx1.out] at hs1 hs2 hs3
  have hcc := list_at HR12.out.is
  have HE12 := hid (HE3.out.trans' HR12.out.below)
  rw [show (if (some (⟨x1, m1⟩ : File)).isSome = true then (0 : Int) else 11) = 0 from rfl]
  clear hO3 hRb3 hE12 HR11 HRb1 HRb2
  generalize str x1 = sx at *
  go_wp2_with fail
  refine hcc.mono ?_
  clear hcc
  rintro e w13 ⟨v, rfl, hOw, hE⟩
  obtain ⟨Av, cv, rfl, -⟩ := hOw.read
  rw [show (List.map (fun x => x.1) [(nmC, (⟨x1, m1⟩ : File))]).length = 1 from rfl]
  have HE13 := hid (HE12.out.trans' hE)
  clear hOw hE
  go_wp2
  go_ret
  exact ⟨rfl, HE13.out⟩
end Go.Proofs.YtakebdeldndaaaaGreatDoor

