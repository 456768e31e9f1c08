/- check.Clean. -/
import Derived.Test.YtakebdeldndaaaaGreatDoorSv
namespace Go.Proofs.YtakebdeldndaaaaGreatDoor
open Go Go.RowKit
set_option linter.unusedSimpArgs false
set_option linter.unusedVariables false
def stepC (ds : List DefV) (most : Int) (nm : List UInt8) (l : Int) (F : Files) : Int × Int × Files :=
  if atF F nm = none ∨ (tryO ds F nm most).isSome = true then (0, l, F) else (knownEF l F nm, burnL l, dropF l F nm)
def restC (ds : List DefV) (most : Int) : Nat → Int → Files → Int × Int × Files
  | 0, l, F => (0, l, F)
  | n + 1, l, F => andS (stepC ds most (if n = 1 then nmN else nmC) l F) (restC ds most n)
def cleanS (ds : List DefV) (most : Int) (l : Int) (F : Files) : Int × Int × Files := if defsE ds ≠ 0 then (defsE ds, l, F) else restC ds most 2 l F
theorem restC_step (ds : List DefV) (most : Int) (n : Nat) (l : Int) (F : Files) : restC ds most (n + 1) l F = if (stepC ds most (if n = 1 then nmN else nmC) l F).1 = 0 then restC ds most n (stepC ds most (if n = 1 then nmN else nmC) l F).2.1 (stepC ds most (if n = 1 then nmN else nmC) l F).2.2 else stepC ds most (if n = 1 then nmN else nmC) l F := rfl
set_option maxRecDepth 100000 in
set_option maxHeartbeats 4000000 in
theorem ckClean_at {w : World} {S : Nat → Prop} {d m : Nat} {q l : Int} {F : Files} (h : DiskIs w S d m q l F) {A : Option Addr} {n c : Nat} {ds : List DefV} (hx : SlR RDef w (Out (fun k => k = d ∨ k = m) w) A n c ds) (most : Int) :
    Calls Tryz.prog 17 #[.pointer (some ⟨d, 0, none⟩), .slice A n c, .int .i64 most] w fun e w' => SvEnd w S d m q (cleanS ds most l F).1 (cleanS ds most l F).2.1 (cleanS ds most l F).2.2 e w' := by
  have H := hid h; have HX0 := hid hx
  have hpd := putDefsB_at (slR_out hx)
  clear h hx
  go_enter Tryz.func17, Tryz.ntmps17
  go_wp2_with fail
  refine hpd.mono ?_
  clear hpd
  rintro e w1 ⟨⟨v0, rfl, -⟩, hE⟩
  have HE0 := hid hE
  have HX := hid (slR_kept HX0.out (Kept2.of_ext (d := d) (m := m) hE) (.inl rfl) (.inr rfl))
  have HD0 := hid (H.out.ext hE)
  clear hE H HX0
  by_cases h0 : defsE ds = 0
  rotate_left
  · have hpost := hid (show SvEnd w S d m q (cleanS ds most l F).1 (cleanS ds most l F).2.1 (cleanS ds most l F).2.2 (.returned (.int .i64 (defsE ds))) w1 from by
      unfold cleanS
      rw [if_pos h0]
      exact ⟨rfl, HD0.out, Kept2.of_ext HE0.out⟩)
    obtain ⟨me, hme⟩ : ∃ me, me = defsE ds := ⟨_, rfl⟩
    have hx1 : (me != 0) = true := by rw [hme]; simpa using h0
    rw [← hme] at hpost ⊢
    clear h0 hme
    go_wp2
    go_ret
    exact hpost.out
  have H0 := hid h0
  rw [h0]
  have HC := hid (show cleanS ds most l F = restC ds most 2 l F from by unfold cleanS; rw [if_neg (by rw [h0]; exact fun h => h rfl)])
  clear h0
  go_wp2_with fail
  go_loopw [26] (fun i wr => ∃ (k : Nat) (l1 : Int) (F1 : Files), k ≤ 2 ∧ i = .int .i64 (k : Int) ∧ Hid (DiskIs wr S d m q l1 F1) ∧ Hid (Kept2 d m w1 wr) ∧ Hid (cleanS ds most l F = restC ds most (2 - k) l1 F1)) (fun i _ => 2 - (intOf i).toNat)
  case atStart => exact ⟨0, l, F, by omega, rfl, HD0, hid (Kept2.refl _ _ _), HC⟩
  case round =>
    obtain ⟨k, l1, F1, hk, rfl, HD, HK, HR⟩ := hrel
    by_cases h2 : k = 2
    · subst h2
      have hpost := hid (show SvEnd w S d m q (cleanS ds most l F).1 (cleanS ds most l F).2.1 (cleanS ds most l F).2.2 (.returned (.int .i64 0)) wr from by
        rw [HR.out]
        exact ⟨rfl, HD.out, (Kept2.of_ext HE0.out).trans HK.out⟩)
      go_wp2
      go_ret
      exact hpost.out
    by_cases h1 : k = 0
    · subst h1
      have hcc := readF_at HD.out nmN (by decide)
      have hix : ∀ w, (Instr.index 90 (.agg #[.string { data := #[99, 104, 101, 99, 107, 95, 110, 101, 119] }, .string { data := #[99, 104, 101, 99, 107] }]) (.int .i64 0)).run Tryz.prog w = .ok (.string { data := #[99, 104, 101, 99, 107, 95, 110, 101, 119] }) w := fun w => by kernel_rfl
      have hst := restC_step ds most (2 - 0 - 1) l1 F1
      rw [show (if 2 - 0 - 1 = 1 then nmN else nmC) = nmN from rfl] at hst
      go_wp2_with fail
      refine hcc.mono ?_
      clear hcc hix
      rintro e w2 ⟨v, rfl, hO, hE2⟩
      unfold readE
      unfold readB at hO
      cases hat : atF F1 nmN with
      | none =>
        have hno : stepC ds most nmN l1 F1 = (0, l1, F1) := by unfold stepC; rw [if_pos (.inl hat)]
        clear hO hat
        -- on to the next name
        have HR2 := hid (show cleanS ds most l F = restC ds most (2 - (0 + 1)) l1 F1 from by rw [HR.out, hst, hno]; exact if_pos rfl)
        have HD2 := hid (HD.out.ext hE2)
        have HK2 := hid (HK.out.trans (Kept2.of_ext hE2))
        clear hst hno hE2
        go_wp2_with fail
        go_roundw
        case rel => exact ⟨0 + 1, l1, F1, by omega, by go_num, HD2, HK2, HR2⟩
        case measure => simp [intOf]
      | some f =>
        rw [hat] at hO
        have hO : OB w2 wr.heap.size v f.b := hO
        have hlen := (HD.out.len hat).1
        obtain ⟨Ab, nb, cb, rfl, hnb, hcb, hRb⟩ := OB.rd hO
        have hcc := ckTake2_at (slR_out (slR_kept (slR_kept HX.out HK.out (.inl rfl) (.inr rfl)) (Kept2.of_ext (d := d) (m := m) hE2) (.inl rfl) (.inr rfl))) hnb hcb hRb (by omega)
        have Hat := hid hat
        clear hO hat hnb hlen hRb
        go_wp2_with fail
        refine hcc.mono ?_
        clear hcc
        rintro e w3 ⟨hE3, hans⟩
        have hE2 := hE2.trans' hE3
        clear hE3
        rcases hans with ⟨h0, rfl⟩ | ⟨-, htk, rfl⟩ | ⟨-, last, Es, p, L, S', htk, rfl, -, -, -⟩
        · exact absurd H0.out h0
        · have hno : stepC ds most nmN l1 F1 = (knownEF l1 F1 nmN, burnL l1, dropF l1 F1 nmN) := by
            have ht : tryO ds F1 nmN most = none := by unfold tryO; rw [Hat.out]; dsimp only; rw [htk]
            unfold stepC
            rw [if_neg (by rintro (h | h); rw [Hat.out] at h; cases h; rw [ht] at h; cases h)]
          clear htk
          -- it is removed
          have hcc := remove_at (HD.out.ext hE2) nmN (by decide)
          have HK2 := hid (HK.out.trans (Kept2.of_ext (d := d) (m := m) hE2))
          clear hE2
          go_wp2_with fail
          refine hcc.mono ?_
          clear hcc
          rintro e w4 ⟨rfl, hD4, hK4⟩
          have HD4 := hid hD4
          have HK4 := hid (HK2.out.trans hK4)
          have hst2 := HR.out.trans hst
          rw [hno] at hst2
          clear hst hno hD4 hK4
          generalize knownEF l1 F1 nmN = x at *
          generalize dropF l1 F1 nmN = F2 at *
          generalize burnL l1 = l2 at *
          by_cases hx : x = 0
          · subst hx
            have HR2 := hid (show cleanS ds most l F = restC ds most (2 - (0 + 1)) l2 F2 from by rw [hst2]; exact if_pos rfl)
            clear hst2
            go_wp2_with fail
            go_roundw
            case rel => exact ⟨0 + 1, l2, F2, by omega, by go_num, HD4, HK4, HR2⟩
            case measure => simp [intOf]
          · have hpost := hid (show SvEnd w S d m q (cleanS ds most l F).1 (cleanS ds most l F).2.1 (cleanS ds most l F).2.2 (.returned (.int .i64 x)) w4 from by
              rw [hst2, if_neg hx]
              exact ⟨rfl, HD4.out, (Kept2.of_ext HE0.out).trans HK4.out⟩)
            have hx1 : (x != 0) = true := by simpa using hx
            clear hst2 hx
            go_wp2
            go_ret
            exact hpost.out
        · by_cases hm : last ≤ most
          · have hno : stepC ds most nmN l1 F1 = (0, l1, F1) := by
              have ht : tryO ds F1 nmN most = some (last, Es) := by unfold tryO; rw [Hat.out]; dsimp only; rw [htk]; exact if_pos hm
              unfold stepC
              rw [if_pos (.inr (by rw [ht]; rfl))]
            clear htk
            -- on to the next name
            have HR2 := hid (show cleanS ds most l F = restC ds most (2 - (0 + 1)) l1 F1 from by rw [HR.out, hst, hno]; exact if_pos rfl)
            have HD2 := hid (HD.out.ext hE2)
            have HK2 := hid (HK.out.trans (Kept2.of_ext hE2))
            clear hst hno hE2
            go_wp2_with fail
            go_roundw
            case rel => exact ⟨0 + 1, l1, F1, by omega, by go_num, HD2, HK2, HR2⟩
            case measure => simp [intOf]
          · have hno : stepC ds most nmN l1 F1 = (knownEF l1 F1 nmN, burnL l1, dropF l1 F1 nmN) := by
              have ht : tryO ds F1 nmN most = none := by unfold tryO; rw [Hat.out]; dsimp only; rw [htk]; exact if_neg hm
              unfold stepC
              rw [if_neg (by rintro (h | h); rw [Hat.out] at h; cases h; rw [ht] at h; cases h)]
            clear htk
            -- it is removed
            have hcc := remove_at (HD.out.ext hE2) nmN (by decide)
            have HK2 := hid (HK.out.trans (Kept2.of_ext (d := d) (m := m) hE2))
            clear hE2
            go_wp2_with fail
            refine hcc.mono ?_
            clear hcc
            rintro e w4 ⟨rfl, hD4, hK4⟩
            have HD4 := hid hD4
            have HK4 := hid (HK2.out.trans hK4)
            have hst2 := HR.out.trans hst
            rw [hno] at hst2
            clear hst hno hD4 hK4
            generalize knownEF l1 F1 nmN = x at *
            generalize dropF l1 F1 nmN = F2 at *
            generalize burnL l1 = l2 at *
            by_cases hx : x = 0
            · subst hx
              have HR2 := hid (show cleanS ds most l F = restC ds most (2 - (0 + 1)) l2 F2 from by rw [hst2]; exact if_pos rfl)
              clear hst2
              go_wp2_with fail
              go_roundw
              case rel => exact ⟨0 + 1, l2, F2, by omega, by go_num, HD4, HK4, HR2⟩
              case measure => simp [intOf]
            · have hpost := hid (show SvEnd w S d m q (cleanS ds most l F).1 (cleanS ds most l F).2.1 (cleanS ds most l F).2.2 (.returned (.int .i64 x)) w4 from by
                rw [hst2, if_neg hx]
                exact ⟨rfl, HD4.out, (Kept2.of_ext HE0.out).trans HK4.out⟩)
              have hx1 : (x != 0) = true := by simpa using hx
              clear hst2 hx
              go_wp2
              go_ret
              exact hpost.out
    · obtain rfl : k = 1 := by omega
      have hcc := readF_at HD.out nmC (by decide)
      have hix : ∀ w, (Instr.index 90 (.agg #[.string { data := #[99, 104, 101, 99, 107, 95, 110, 101, 119] }, .string { data := #[99, 104, 101, 99, 107] }]) (.int .i64 1)).run Tryz.prog w = .ok (.string { data := #[99, 104, 101, 99, 107] }) w := fun w => by kernel_rfl
      have hst := restC_step ds most (2 - 1 - 1) l1 F1
      rw [show (if 2 - 1 - 1 = 1 then nmN else nmC) = nmC from rfl] at hst
      go_wp2_with fail
      refine hcc.mono ?_
      clear hcc hix
      rintro e w2 ⟨v, rfl, hO, hE2⟩
      unfold readE
      unfold readB at hO
      cases hat : atF F1 nmC with
      | none =>
        have hno : stepC ds most nmC l1 F1 = (0, l1, F1) := by unfold stepC; rw [if_pos (.inl hat)]
        clear hO hat
        -- on to the next name
        have HR2 := hid (show cleanS ds most l F = restC ds most (2 - (1 + 1)) l1 F1 from by rw [HR.out, hst, hno]; exact if_pos rfl)
        have HD2 := hid (HD.out.ext hE2)
        have HK2 := hid (HK.out.trans (Kept2.of_ext hE2))
        clear hst hno hE2
        go_wp2_with fail
        go_roundw
        case rel => exact ⟨1 + 1, l1, F1, by omega, by go_num, HD2, HK2, HR2⟩
        case measure => simp [intOf]
      | some f =>
        rw [hat] at hO
        have hO : OB w2 wr.heap.size v f.b := hO
        have hlen := (HD.out.len hat).1
        obtain ⟨Ab, nb, cb, rfl, hnb, hcb, hRb⟩ := OB.rd hO
        have hcc := ckTake2_at (slR_out (slR_kept (slR_kept HX.out HK.out (.inl rfl) (.inr rfl)) (Kept2.of_ext (d := d) (m := m) hE2) (.inl rfl) (.inr rfl))) hnb hcb hRb (by omega)
        have Hat := hid hat
        clear hO hat hnb hlen hRb
        go_wp2_with fail
        refine hcc.mono ?_
        clear hcc
        rintro e w3 ⟨hE3, hans⟩
        have hE2 := hE2.trans' hE3
        clear hE3
        rcases hans with ⟨h0, rfl⟩ | ⟨-, htk, rfl⟩ | ⟨-, last, Es, p, L, S', htk, rfl, -, -, -⟩
        · exact absurd H0.out h0
        · have hno : stepC ds most nmC l1 F1 = (knownEF l1 F1 nmC, burnL l1, dropF l1 F1 nmC) := by
            have ht : tryO ds F1 nmC most = none := by unfold tryO; rw [Hat.out]; dsimp only; rw [htk]
            unfold stepC
            rw [if_neg (by rintro (h | h); rw [Hat.out] at h; cases h; rw [ht] at h; cases h)]
          clear htk
          -- it is removed
          have hcc := remove_at (HD.out.ext hE2) nmC (by decide)
          have HK2 := hid (HK.out.trans (Kept2.of_ext (d := d) (m := m) hE2))
          clear hE2
          go_wp2_with fail
          refine hcc.mono ?_
          clear hcc
          rintro e w4 ⟨rfl, hD4, hK4⟩
          have HD4 := hid hD4
          have HK4 := hid (HK2.out.trans hK4)
          have hst2 := HR.out.trans hst
          rw [hno] at hst2
          clear hst hno hD4 hK4
          generalize knownEF l1 F1 nmC = x at *
          generalize dropF l1 F1 nmC = F2 at *
          generalize burnL l1 = l2 at *
          by_cases hx : x = 0
          · subst hx
            have HR2 := hid (show cleanS ds most l F = restC ds most (2 - (1 + 1)) l2 F2 from by rw [hst2]; exact if_pos rfl)
            clear hst2
            go_wp2_with fail
            go_roundw
            case rel => exact ⟨1 + 1, l2, F2, by omega, by go_num, HD4, HK4, HR2⟩
            case measure => simp [intOf]
          · have hpost := hid (show SvEnd w S d m q (cleanS ds most l F).1 (cleanS ds most l F).2.1 (cleanS ds most l F).2.2 (.returned (.int .i64 x)) w4 from by
              rw [hst2, if_neg hx]
              exact ⟨rfl, HD4.out, (Kept2.of_ext HE0.out).trans HK4.out⟩)
            have hx1 : (x != 0) = true := by simpa using hx
            clear hst2 hx
            go_wp2
            go_ret
            exact hpost.out
        · by_cases hm : last ≤ most
          · have hno : stepC ds most nmC l1 F1 = (0, l1, F1) := by
              have ht : tryO ds F1 nmC most = some (last, Es) := by unfold tryO; rw [Hat.out]; dsimp only; rw [htk]; exact if_pos hm
              unfold stepC
              rw [if_pos (.inr (by rw [ht]; rfl))]
            clear htk
            -- on to the next name
            have HR2 := hid (show cleanS ds most l F = restC ds most (2 - (1 + 1)) l1 F1 from by rw [HR.out, hst, hno]; exact if_pos rfl)
            have HD2 := hid (HD.out.ext hE2)
            have HK2 := hid (HK.out.trans (Kept2.of_ext hE2))
            clear hst hno hE2
            go_wp2_with fail
            go_roundw
            case rel => exact ⟨1 + 1, l1, F1, by omega, by go_num, HD2, HK2, HR2⟩
            case measure => simp [intOf]
          · have hno : stepC ds most nmC l1 F1 = (knownEF l1 F1 nmC, burnL l1, dropF l1 F1 nmC) := by
              have ht : tryO ds F1 nmC most = none := by unfold tryO; rw [Hat.out]; dsimp only; rw [htk]; exact if_neg hm
              unfold stepC
              rw [if_neg (by rintro (h | h); rw [Hat.out] at h; cases h; rw [ht] at h; cases h)]
            clear htk
            -- it is removed
            have hcc := remove_at (HD.out.ext hE2) nmC (by decide)
            have HK2 := hid (HK.out.trans (Kept2.of_ext (d := d) (m := m) hE2))
            clear hE2
            go_wp2_with fail
            refine hcc.mono ?_
            clear hcc
            rintro e w4 ⟨rfl, hD4, hK4⟩
            have HD4 := hid hD4
            have HK4 := hid (HK2.out.trans hK4)
            have hst2 := HR.out.trans hst
            rw [hno] at hst2
            clear hst hno hD4 hK4
            generalize knownEF l1 F1 nmC = x at *
            generalize dropF l1 F1 nmC = F2 at *
            generalize burnL l1 = l2 at *
            by_cases hx : x = 0
            · subst hx
              have HR2 := hid (show cleanS ds most l F = restC ds most (2 - (1 + 1)) l2 F2 from by rw [hst2]; exact if_pos rfl)
              clear hst2
              go_wp2_with fail
              go_roundw
              case rel => exact ⟨1 + 1, l2, F2, by omega, by go_num, HD4, HK4, HR2⟩
              case measure => simp [intOf]
            · have hpost := hid (show SvEnd w S d m q (cleanS ds most l F).1 (cleanS ds most l F).2.1 (cleanS ds most l F).2.2 (.returned (.int .i64 x)) w4 from by
                rw [hst2, if_neg hx]
                exact ⟨rfl, HD4.out, (Kept2.of_ext HE0.out).trans HK4.out⟩)
              have hx1 : (x != 0) = true := by simpa using hx
              clear hst2 hx
              go_wp2
              go_ret
              exact hpost.out
end Go.Proofs.YtakebdeldndaaaaGreatDoor
