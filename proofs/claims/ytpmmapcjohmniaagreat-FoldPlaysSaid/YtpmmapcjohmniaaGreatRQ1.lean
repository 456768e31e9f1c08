/- Which queries may be, as the document says. -/
import Derived.Test.YtpmmapcjohmniaaGreatQu4
namespace Go.Proofs.YtpmmapcjohmniaaGreat
open Go Go.RowKit
set_option linter.unusedSimpArgs false
set_option linter.unusedVariables false

theorem any_none {α : Type} {p : α → Bool} {l : List α} (h : ∀ j (h : j < l.length), p l[j] = false) : l.any p = false := by
  rw [List.any_eq_false]
  intro x hx
  obtain ⟨j, hj, rfl⟩ := List.getElem_of_mem hx
  rw [h j hj]; decide
theorem any_next {α : Type} {p : α → Bool} {l : List α} {k : Nat} (h : k < l.length) : (l.take (k + 1)).any p = ((l.take k).any p || p l[k]) := by
  rw [List.take_succ_eq_append_getElem h, List.any_append]; simp
set_option maxRecDepth 100000 in
set_option maxHeartbeats 4000000 in
theorem refQMay_at {w : World} {A : Option Addr} {n c : Nat} {q : List ClV} (h : SlR RCl w (· < w.heap.size) A n c q) :
    Calls Tryz.prog 36 #[.agg #[.slice A n c]] w fun e w' => e = .returned (.int .i64 (mayQ q)) ∧ Ext w w' := by
  have Hn := hid h.1
  have hnc := h.2.1
  have hcm := h.2.2.1
  have H := hid h
  have HE0 := hid (ext_alloc w (.cells #[.slice A n c] 24))
  have b0 : (w.alloc (.cells #[.slice A n c] 24)).cell? ⟨w.heap.size, 0, none⟩ = some (.slice A n c) := by rw [cell_of_row _ _ _ _ _ _ (heap_alloc_last w _)]; rfl
  clear h
  go_enter Tryz.func36, Tryz.ntmps36
  by_cases h4 : 4 < n
  · have g4 : (4 : Int) < (n : Int) := by omega
    have hr := hid (show mayQ q = 3 by unfold mayQ; rw [← Hn.out, decide_eq_true h4]; rfl)
    clear h4
    go_wp2
    go_ret
    exact ⟨by rw [hr.out]; rfl, HE0.out⟩
  have g4 : ¬ ((4 : Int) < (n : Int)) := by omega
  have Hq := hid (show mayQ q = if q.any bigC = true then 3 else if q.any noneC = true then 5 else if q.any riseC = true then 1 else 0 by unfold mayQ; rw [← Hn.out, decide_eq_false h4, Bool.false_or])
  have hn4 : n ≤ 4 := by omega
  clear h4
  go_wp2_with fail
  have H1 := hid (H.out.grow HE0.out)
  generalize w.alloc (.cells #[.slice A n c] 24) = w1 at *
  generalize w.heap.size = bq at *
  have B0 := hid b0
  clear H g4
  go_loopw [3] (fun i wr => wr = w1 ∧ ∃ k : Nat, k ≤ n ∧ i = .int .i64 (k : Int) ∧ Hid (∀ j (hj : j < k) (h : j < q.length), bigC q[j] = false)) (fun i _ => n - (intOf i).toNat)
  case atStart => exact ⟨rfl, 0, by omega, rfl, fun j hj => by omega⟩
  case round =>
    obtain ⟨rfl, k, hk, rfl, HN⟩ := hrel
    by_cases hlt : k < n
    · have hkx : k < q.length := by have := Hn.out; omega
      have hlt' : (k : Int) < (n : Int) := by omega
      have hk00 : ¬ ((k : Int) < 0) := by omega
      have hk0 : (0 : Int) ≤ (k : Int) := by omega
      obtain ⟨bb, o, T, ta, U, ua, rfl, -, f0, f1, hT, hU⟩ := cl_at H1.out k hkx
      have Hb := hid (show bigC q[k] = (decide (4 < q[k].tags.length) || decide (4 < q[k].types.length)) from rfl)
      have Hm := hid (show bigC q[k] = true → q.any bigC = true from fun hp => List.any_eq_true.2 ⟨_, List.getElem_mem hkx, hp⟩)
      have Hk := hid (prefix_next (p := bigC) HN.out hkx)
      clear hT hU
      generalize bigC q[k] = bc at Hb Hm Hk
      generalize q[k].tags.length = tl at *
      generalize q[k].types.length = ul at *
      by_cases h1 : 4 < tl
      · have g1 : (4 : Int) < (tl : Int) := by omega
        have hr := hid (show mayQ q = 3 by rw [Hq.out, if_pos (Hm.out (by rw [Hb.out, decide_eq_true h1]; rfl))])
        clear h1
        go_wp2
        go_ret
        exact ⟨by rw [hr.out]; rfl, HE0.out⟩
      have g1 : ¬ ((4 : Int) < (tl : Int)) := by omega
      by_cases h2 : 4 < ul
      · have g2 : (4 : Int) < (ul : Int) := by omega
        have hr := hid (show mayQ q = 3 by rw [Hq.out, if_pos (Hm.out (by rw [Hb.out, decide_eq_true h2, Bool.or_true]))])
        clear h1 h2
        go_wp2
        go_ret
        exact ⟨by rw [hr.out]; rfl, HE0.out⟩
      have g2 : ¬ ((4 : Int) < (ul : Int)) := by omega
      have hn2 := hid (Hk.out (by rw [Hb.out, decide_eq_false h1, decide_eq_false h2]; rfl))
      clear h1 h2
      go_wp2_with fail
      go_roundw
      case rel => exact ⟨trivial, k + 1, by omega, by go_num, hn2⟩
      case measure => simp [intOf]; omega
    · obtain rfl : k = n := by omega
      have hlt' : ¬ ((k : Int) < (k : Int)) := by omega
      have Hbig := hid (any_none (p := bigC) (l := q) fun j hj => HN.out j (by have := Hn.out; omega) hj)
      have Hq2 := hid (show mayQ q = if q.any noneC = true then 5 else if q.any riseC = true then 1 else 0 by rw [Hq.out, Hbig.out]; rfl)
      clear HN Hbig Hq hk hlt
      go_wp2_with fail
      clear hlt' b0
      go_loopw [4, 5] (fun r i wy => ∃ k' : Nat, k' ≤ k ∧ i = .int .i64 (k' : Int) ∧ r = .bool (!(q.take k').any riseC) ∧ Hid (Ext wr wy) ∧ Hid (∀ j (hj : j < k') (h : j < q.length), noneC q[j] = false)) (fun _ i _ => k - (intOf i).toNat)
      case atStart => exact ⟨0, by omega, rfl, rfl, Below.refl _ _, fun j hj => by omega⟩
      case round =>
        obtain ⟨k', hk', rfl, rfl, HE, HN⟩ := hrel
        have c0 := cell_later HE.out B0.out
        by_cases hlt : k' < k
        · have hkx : k' < q.length := by have := Hn.out; omega
          have hlt' : (k' : Int) < (k : Int) := by omega
          have hk00 : ¬ ((k' : Int) < 0) := by omega
          have hk0 : (0 : Int) ≤ (k' : Int) := by omega
          have H2 := hid (H1.out.grow HE.out)
          obtain ⟨bb, o, T, ta, U, ua, rfl, -, f0, f1, hT, hU⟩ := cl_at H2.out k' hkx
          have HT := hid hT; have HU := hid hU
          have Hno := hid (show noneC q[k'] = true → mayQ q = 5 from fun hp => by rw [Hq2.out, if_pos (List.any_eq_true.2 ⟨_, List.getElem_mem hkx, hp⟩)])
          have Hnc := hid (show noneC q[k'] = (q[k'].tags.any (fun s => !tagN s) || q[k'].types.any (fun s => !mayN s)) from rfl)
          have Hr2 := hid (any_next (p := riseC) hkx)
          have Hrc := hid (show riseC q[k'] = (!riseB q[k'].tags || !riseB q[k'].types) from rfl)
          have Hk := hid (prefix_next (p := noneC) HN.out hkx)
          clear hT hU H2 HN
          generalize (q.take k').any riseC = rb at *
          generalize riseC q[k'] = rc at *
          generalize noneC q[k'] = nc at *
          generalize q[k'].tags = tags at *
          generalize q[k'].types = types at *
          have hta := HT.out.2.1; have htm := HT.out.2.2.1
          have hua := HU.out.2.1; have hum := HU.out.2.2.1
          generalize htl0 : tags.length = tl at *
          generalize hul0 : types.length = ul at *
          have htl := hid htl0; have hul := hid hul0
          clear htl0 hul0
          go_wp2_with fail
          have HEb := hid (ext_alloc wr (.cells #[.slice T tl ta, .slice U ul ua] 80))
          have HX := hid (show ClBox wr.heap.size T tl ta U ul ua (wr.alloc (.cells #[.slice T tl ta, .slice U ul ua] 80)) from heap_alloc_last _ _)
          have HE2 := hid (Ext.trans' HE.out HEb.out)
          have HT2 := hid (HT.out.grow HEb.out); have HU2 := hid (HU.out.grow HEb.out)
          clear HE HEb HT HU f0 f1 c0
          generalize wr.heap.size = bx at *
          generalize wr.alloc (.cells #[.slice T tl ta, .slice U ul ua] 80) = wb at *
          go_loopw [7] (fun i wy => ∃ j : Nat, j ≤ tl ∧ i = .int .i64 (j : Int) ∧ Hid (Ext wb wy) ∧ Hid (∀ j' (hj : j' < j) (h : j' < tags.length), (!tagN tags[j']) = false)) (fun i _ => tl - (intOf i).toNat)
          case atStart => exact ⟨0, by omega, rfl, Below.refl _ _, fun j hj => by omega⟩
          case round =>
            obtain ⟨j, hj, rfl, HE3, HN3⟩ := hrel
            obtain ⟨x0, x1⟩ := (HX.out.ext HE3.out).cells
            by_cases hlt3 : j < tl
            · have hjx : j < tags.length := by have := htl.out; omega
              have hjt : (j : Int) < (tl : Int) := by omega
              have hj00 : ¬ ((j : Int) < 0) := by omega
              have hj0 : (0 : Int) ≤ (j : Int) := by omega
              obtain ⟨tb, to', rfl, -, f0, hs⟩ := txt_at (HT2.out.grow HE3.out) j hjx
              have Hk3 := hid (prefix_next (p := fun s => !tagN s) HN3.out hjx)
              have Hbad := hid (show (!tagN tags[j]) = true → mayQ q = 5 from fun hp => Hno.out (by rw [Hnc.out, List.any_eq_true.2 ⟨_, List.getElem_mem hjx, hp⟩]; rfl))
              have Ht := hid (show tagN tags[j] = (partsT tags[j]).2.2 from rfl)
              generalize tags[j] = x at *
              go_wp2_with fail
              refine (refParts_at x _ hs).mono ?_
              rintro e w4 ⟨rfl, hE⟩
              have HE4 := hid (Ext.trans' HE3.out hE)
              clear hE f0 x0 x1
              cases hp : (partsT x).2.2
              · have hr := hid (Hbad.out (by rw [Ht.out, hp]; rfl))
                have HEf := hid (Ext.trans' HE0.out (Ext.trans' HE2.out HE4.out))
                go_wp2
                go_ret
                exact ⟨by rw [hr.out]; rfl, HEf.out⟩
              · have hn3 := hid (Hk3.out (by rw [Ht.out, hp]; rfl))
                go_wp2_with fail
                go_roundw
                case rel => exact ⟨j + 1, by omega, by go_num, HE4, hn3⟩
                case measure => simp [intOf]; omega
            · obtain rfl : j = tl := by omega
              have hjt : ¬ ((j : Int) < (j : Int)) := by omega
              have Htags := hid (any_none (p := fun s => !tagN s) (l := tags) fun j' hj => HN3.out j' (by have := htl.out; omega) hj)
              go_wp2_with fail
              clear x0 x1 hjt HN3
              have Hno5 := Hno
              clear Hno
              go_loopw [11] (fun i wy => ∃ j' : Nat, j' ≤ ul ∧ i = .int .i64 (j' : Int) ∧ Hid (Ext wb wy) ∧ Hid (∀ j'' (hj : j'' < j') (h : j'' < types.length), (!mayN types[j'']) = false)) (fun i _ => ul - (intOf i).toNat)
              case atStart => exact ⟨0, by omega, rfl, HE3, fun j hj => by omega⟩
              case round =>
                obtain ⟨j', hj', rfl, HE4, HN4⟩ := hrel
                obtain ⟨x0, x1⟩ := (HX.out.ext HE4.out).cells
                by_cases hlt4 : j' < ul
                · have hjx : j' < types.length := by have := hul.out; omega
                  have hjt : (j' : Int) < (ul : Int) := by omega
                  have hj00 : ¬ ((j' : Int) < 0) := by omega
                  have hj0 : (0 : Int) ≤ (j' : Int) := by omega
                  obtain ⟨tb, to', rfl, -, f0, hs⟩ := txt_at (HU2.out.grow HE4.out) j' hjx
                  have Hk3 := hid (prefix_next (p := fun s => !mayN s) HN4.out hjx)
                  have Hbad := hid (show (!mayN types[j']) = true → mayQ q = 5 from fun hp => Hno5.out (by rw [Hnc.out, Bool.or_eq_true]; exact .inr (List.any_eq_true.2 ⟨_, List.getElem_mem hjx, hp⟩)))
                  generalize types[j'] = x at *
                  go_wp2_with fail
                  refine (refMayN_at x _).mono ?_
                  rintro e w4 ⟨rfl, hE⟩
                  have HE5 := hid (Ext.trans' HE4.out hE)
                  clear hE f0 x0 x1
                  cases hp : mayN x
                  · have hr := hid (Hbad.out (by rw [hp]; rfl))
                    have HEf := hid (Ext.trans' HE0.out (Ext.trans' HE2.out HE5.out))
                    go_wp2
                    go_ret
                    exact ⟨by rw [hr.out]; rfl, HEf.out⟩
                  · have hn3 := hid (Hk3.out (by rw [hp]; rfl))
                    go_wp2_with fail
                    go_roundw
                    case rel => exact ⟨j' + 1, by omega, by go_num, HE5, hn3⟩
                    case measure => simp [intOf]; omega
                · obtain rfl : j' = ul := by omega
                  have hjt : ¬ ((j' : Int) < (j' : Int)) := by omega
                  have Htypes := hid (any_none (p := fun s => !mayN s) (l := types) fun j'' hj => HN4.out j'' (by have := hul.out; omega) hj)
                  have Hn2 := hid (Hk.out (by rw [Hnc.out, Htags.out, Htypes.out]; rfl))
                  go_wp2_with fail
                  have hcc := refRise_at (HT2.out.grow HE4.out)
                  refine hcc.mono ?_
                  clear hcc x0 x1 hjt HN4
                  rintro e w5 ⟨rfl, hE⟩
                  have HE5 := hid (Ext.trans' HE4.out hE)
                  clear hE
                  obtain ⟨x0, x1⟩ := (HX.out.ext HE5.out).cells
                  go_wp2_with fail
                  have hcc := refRise_at (HU2.out.grow HE5.out)
                  refine hcc.mono ?_
                  clear hcc x0 x1
                  rintro e w6 ⟨rfl, hE⟩
                  have HE6 := hid (Ext.trans' HE2.out (Ext.trans' HE5.out hE))
                  clear hE
                  rw [Hrc.out] at Hr2
                  generalize riseB tags = r1 at *
                  generalize riseB types = r2 at *
                  cases rb <;> cases r1 <;> cases r2
                  ·
                    have hv : (q.take (k' + 1)).any riseC = true := by rw [Hr2.out]; rfl
                    have Hv := hid hv
                    clear hv
                    go_wp2_with fail
                    go_roundw
                    case rel => exact ⟨k' + 1, by omega, by go_num, by rw [Hv.out]; rfl, HE6, Hn2⟩
                    case measure => simp [intOf]; omega
                  ·
                    have hv : (q.take (k' + 1)).any riseC = true := by rw [Hr2.out]; rfl
                    have Hv := hid hv
                    clear hv
                    go_wp2_with fail
                    go_roundw
                    case rel => exact ⟨k' + 1, by omega, by go_num, by rw [Hv.out]; rfl, HE6, Hn2⟩
                    case measure => simp [intOf]; omega
                  ·
                    have hv : (q.take (k' + 1)).any riseC = true := by rw [Hr2.out]; rfl
                    have Hv := hid hv
                    clear hv
                    go_wp2_with fail
                    go_roundw
                    case rel => exact ⟨k' + 1, by omega, by go_num, by rw [Hv.out]; rfl, HE6, Hn2⟩
                    case measure => simp [intOf]; omega
                  ·
                    have hv : (q.take (k' + 1)).any riseC = false := by rw [Hr2.out]; rfl
                    have Hv := hid hv
                    clear hv
                    go_wp2_with fail
                    go_roundw
                    case rel => exact ⟨k' + 1, by omega, by go_num, by rw [Hv.out]; rfl, HE6, Hn2⟩
                    case measure => simp [intOf]; omega
                  ·
                    have hv : (q.take (k' + 1)).any riseC = true := by rw [Hr2.out]; rfl
                    have Hv := hid hv
                    clear hv
                    go_wp2_with fail
                    go_roundw
                    case rel => exact ⟨k' + 1, by omega, by go_num, by rw [Hv.out]; rfl, HE6, Hn2⟩
                    case measure => simp [intOf]; omega
                  ·
                    have hv : (q.take (k' + 1)).any riseC = true := by rw [Hr2.out]; rfl
                    have Hv := hid hv
                    clear hv
                    go_wp2_with fail
                    go_roundw
                    case rel => exact ⟨k' + 1, by omega, by go_num, by rw [Hv.out]; rfl, HE6, Hn2⟩
                    case measure => simp [intOf]; omega
                  ·
                    have hv : (q.take (k' + 1)).any riseC = true := by rw [Hr2.out]; rfl
                    have Hv := hid hv
                    clear hv
                    go_wp2_with fail
                    go_roundw
                    case rel => exact ⟨k' + 1, by omega, by go_num, by rw [Hv.out]; rfl, HE6, Hn2⟩
                    case measure => simp [intOf]; omega
                  ·
                    have hv : (q.take (k' + 1)).any riseC = true := by rw [Hr2.out]; rfl
                    have Hv := hid hv
                    clear hv
                    go_wp2_with fail
                    go_roundw
                    case rel => exact ⟨k' + 1, by omega, by go_num, by rw [Hv.out]; rfl, HE6, Hn2⟩
                    case measure => simp [intOf]; omega
        · obtain rfl : k' = k := by omega
          have hlt' : ¬ ((k' : Int) < (k' : Int)) := by omega
          have hall : q.take k' = q := List.take_of_length_le (by have := Hn.out; omega)
          have Hnone := hid (any_none (p := noneC) (l := q) fun j hj => HN.out j (by have := Hn.out; omega) hj)
          rw [hall]
          cases h3 : q.any riseC
          · have hr := hid (show mayQ q = 0 by rw [Hq2.out, Hnone.out, h3]; rfl)
            go_wp2
            go_ret
            exact ⟨by rw [hr.out]; rfl, Ext.trans' HE0.out HE.out⟩
          · have hr := hid (show mayQ q = 1 by rw [Hq2.out, Hnone.out, h3]; rfl)
            go_wp2
            go_ret
            exact ⟨by rw [hr.out]; rfl, Ext.trans' HE0.out HE.out⟩
end Go.Proofs.YtpmmapcjohmniaaGreat
