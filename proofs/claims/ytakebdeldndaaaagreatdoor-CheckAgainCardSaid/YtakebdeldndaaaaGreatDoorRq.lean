/- Several texts of this claim's, one behind the other. -/
import Derived.Test.YtakebdeldndaaaaGreatDoorQu
import Derived.Test.YtakebdeldndaaaaGreatDoorFoz
import Derived.Test.YtakebdeldndaaaaGreatDoorFoy
import Derived.Deep.DeepCutAuto
import Derived.WalkLawsBesides
/- Which queries may be, as the document says. -/
namespace Go.Proofs.YtakebdeldndaaaaGreatDoor
open Go Go.RowKit
set_option linter.unusedSimpArgs false
set_option linter.unusedVariables false

theorem any_none {α : Type} {p : α → Bool} {l : List α} (h : ∀ j (h : j < l.length), p l[j] = false) : l.any p = false := by
  rw [List.any_eq_false]
  intro x hx
  obtain ⟨j, hj, rfl⟩ := List.getElem_of_mem hx
  rw [h j hj]; decide
theorem any_next {α : Type} {p : α → Bool} {l : List α} {k : Nat} (h : k < l.length) : (l.take (k + 1)).any p = ((l.take k).any p || p l[k]) := by
  rw [List.take_succ_eq_append_getElem h, List.any_append]; simp
set_option maxRecDepth 100000 in
set_option maxHeartbeats 4000000 in
theorem refQMay_at {w : World} {A : Option Addr} {n c : Nat} {q : List ClV} (h : SlR RCl w (· < w.heap.size) A n c q) :
    Calls Tryz.prog 129 #[.agg #[.slice A n c]] w fun e w' => e = .returned (.int .i64 (mayQ q)) ∧ Ext w w' := by
  have Hn := hid h.1
  have hnc := h.2.1
  have hcm := h.2.2.1
  have H := hid h
  have HE0 := hid (ext_alloc w (.cells #[.slice A n c] 70))
  have b0 : (w.alloc (.cells #[.slice A n c] 70)).cell? ⟨w.heap.size, 0, none⟩ = some (.slice A n c) := by rw [cell_of_row _ _ _ _ _ _ (heap_alloc_last w _)]; rfl
  clear h
  go_enter Tryz.func129, Tryz.ntmps129
  by_cases h4 : 4 < n
  · have g4 : (4 : Int) < (n : Int) := by omega
    have hr := hid (show mayQ q = 3 by unfold mayQ; rw [← Hn.out, decide_eq_true h4]; rfl)
    clear h4
    go_wp2
    go_ret
    exact ⟨by rw [hr.out]; rfl, HE0.out⟩
  have g4 : ¬ ((4 : Int) < (n : Int)) := by omega
  have Hq := hid (show mayQ q = if q.any bigC = true then 3 else if q.any noneC = true then 5 else if q.any riseC = true then 1 else 0 by unfold mayQ; rw [← Hn.out, decide_eq_false h4, Bool.false_or])
  have hn4 : n ≤ 4 := by omega
  clear h4
  go_wp2_with fail
  have H1 := hid (H.out.grow HE0.out)
  generalize w.alloc (.cells #[.slice A n c] 70) = w1 at *
  generalize w.heap.size = bq at *
  have B0 := hid b0
  clear H g4
  go_loopw [3] (fun i wr => wr = w1 ∧ ∃ k : Nat, k ≤ n ∧ i = .int .i64 (k : Int) ∧ Hid (∀ j (hj : j < k) (h : j < q.length), bigC q[j] = false)) (fun i _ => n - (intOf i).toNat)
  case atStart => exact ⟨rfl, 0, by omega, rfl, fun j hj => by omega⟩
  case round =>
    obtain ⟨rfl, k, hk, rfl, HN⟩ := hrel
    by_cases hlt : k < n
    · have hkx : k < q.length := by have := Hn.out; omega
      have hlt' : (k : Int) < (n : Int) := by omega
      have hk00 : ¬ ((k : Int) < 0) := by omega
      have hk0 : (0 : Int) ≤ (k : Int) := by omega
      obtain ⟨bb, o, T, ta, U, ua, rfl, -, f0, f1, hT, hU⟩ := cl_at H1.out k hkx
      have Hb := hid (show bigC q[k] = (decide (4 < q[k].tags.length) || decide (4 < q[k].types.length)) from rfl)
      have Hm := hid (show bigC q[k] = true → q.any bigC = true from fun hp => List.any_eq_true.2 ⟨_, List.getElem_mem hkx, hp⟩)
      have Hk := hid (prefix_next (p := bigC) HN.out hkx)
      clear hT hU
      generalize bigC q[k] = bc at Hb Hm Hk
      generalize q[k].tags.length = tl at *
      generalize q[k].types.length = ul at *
      by_cases h1 : 4 < tl
      · have g1 : (4 : Int) < (tl : Int) := by omega
        have hr := hid (show mayQ q = 3 by rw [Hq.out, if_pos (Hm.out (by rw [Hb.out, decide_eq_true h1]; rfl))])
        clear h1
        go_wp2
        go_ret
        exact ⟨by rw [hr.out]; rfl, HE0.out⟩
      have g1 : ¬ ((4 : Int) < (tl : Int)) := by omega
      by_cases h2 : 4 < ul
      · have g2 : (4 : Int) < (ul : Int) := by omega
        have hr := hid (show mayQ q = 3 by rw [Hq.out, if_pos (Hm.out (by rw [Hb.out, decide_eq_true h2, Bool.or_true]))])
        clear h1 h2
        go_wp2
        go_ret
        exact ⟨by rw [hr.out]; rfl, HE0.out⟩
      have g2 : ¬ ((4 : Int) < (ul : Int)) := by omega
      have hn2 := hid (Hk.out (by rw [Hb.out, decide_eq_false h1, decide_eq_false h2]; rfl))
      clear h1 h2
      go_wp2_with fail
      go_roundw
      case rel => exact ⟨trivial, k + 1, by omega, by go_num, hn2⟩
      case measure => simp [intOf]; omega
    · obtain rfl : k = n := by omega
      have hlt' : ¬ ((k : Int) < (k : Int)) := by omega
      have Hbig := hid (any_none (p := bigC) (l := q) fun j hj => HN.out j (by have := Hn.out; omega) hj)
      have Hq2 := hid (show mayQ q = if q.any noneC = true then 5 else if q.any riseC = true then 1 else 0 by rw [Hq.out, Hbig.out]; rfl)
      clear HN Hbig Hq hk hlt
      go_wp2_with fail
      clear hlt' b0
      go_loopw [4, 5] (fun r i wy => ∃ k' : Nat, k' ≤ k ∧ i = .int .i64 (k' : Int) ∧ r = .bool (!(q.take k').any riseC) ∧ Hid (Ext wr wy) ∧ Hid (∀ j (hj : j < k') (h : j < q.length), noneC q[j] = false)) (fun _ i _ => k - (intOf i).toNat)
      case atStart => exact ⟨0, by omega, rfl, rfl, Below.refl _ _, fun j hj => by omega⟩
      case round =>
        obtain ⟨k', hk', rfl, rfl, HE, HN⟩ := hrel
        have c0 := cell_later HE.out B0.out
        by_cases hlt : k' < k
        · have hkx : k' < q.length := by have := Hn.out; omega
          have hlt' : (k' : Int) < (k : Int) := by omega
          have hk00 : ¬ ((k' : Int) < 0) := by omega
          have hk0 : (0 : Int) ≤ (k' : Int) := by omega
          have H2 := hid (H1.out.grow HE.out)
          obtain ⟨bb, o, T, ta, U, ua, rfl, -, f0, f1, hT, hU⟩ := cl_at H2.out k' hkx
          have HT := hid hT; have HU := hid hU
          have Hno := hid (show noneC q[k'] = true → mayQ q = 5 from fun hp => by rw [Hq2.out, if_pos (List.any_eq_true.2 ⟨_, List.getElem_mem hkx, hp⟩)])
          have Hnc := hid (show noneC q[k'] = (q[k'].tags.any (fun s => !tagN s) || q[k'].types.any (fun s => !mayN s)) from rfl)
          have Hr2 := hid (any_next (p := riseC) hkx)
          have Hrc := hid (show riseC q[k'] = (!riseB q[k'].tags || !riseB q[k'].types) from rfl)
          have Hk := hid (prefix_next (p := noneC) HN.out hkx)
          clear hT hU H2 HN
          generalize (q.take k').any riseC = rb at *
          generalize riseC q[k'] = rc at *
          generalize noneC q[k'] = nc at *
          generalize q[k'].tags = tags at *
          generalize q[k'].types = types at *
          have hta := HT.out.2.1; have htm := HT.out.2.2.1
          have hua := HU.out.2.1; have hum := HU.out.2.2.1
          generalize htl0 : tags.length = tl at *
          generalize hul0 : types.length = ul at *
          have htl := hid htl0; have hul := hid hul0
          clear htl0 hul0
          go_wp2_with fail
          have HEb := hid (ext_alloc wr (.cells #[.slice T tl ta, .slice U ul ua] 67))
          have HX := hid (show ClBox wr.heap.size T tl ta U ul ua (wr.alloc (.cells #[.slice T tl ta, .slice U ul ua] 67)) from heap_alloc_last _ _)
          have HE2 := hid (Ext.trans' HE.out HEb.out)
          have HT2 := hid (HT.out.grow HEb.out); have HU2 := hid (HU.out.grow HEb.out)
          clear HE HEb HT HU f0 f1 c0
          generalize wr.heap.size = bx at *
          generalize wr.alloc (.cells #[.slice T tl ta, .slice U ul ua] 67) = wb at *
          go_loopw [7] (fun i wy => ∃ j : Nat, j ≤ tl ∧ i = .int .i64 (j : Int) ∧ Hid (Ext wb wy) ∧ Hid (∀ j' (hj : j' < j) (h : j' < tags.length), (!tagN tags[j']) = false)) (fun i _ => tl - (intOf i).toNat)
          case atStart => exact ⟨0, by omega, rfl, Below.refl _ _, fun j hj => by omega⟩
          case round =>
            obtain ⟨j, hj, rfl, HE3, HN3⟩ := hrel
            obtain ⟨x0, x1⟩ := (HX.out.ext HE3.out).cells
            by_cases hlt3 : j < tl
            · have hjx : j < tags.length := by have := htl.out; omega
              have hjt : (j : Int) < (tl : Int) := by omega
              have hj00 : ¬ ((j : Int) < 0) := by omega
              have hj0 : (0 : Int) ≤ (j : Int) := by omega
              obtain ⟨tb, to', rfl, -, f0, hs⟩ := txt_at (HT2.out.grow HE3.out) j hjx
              have Hk3 := hid (prefix_next (p := fun s => !tagN s) HN3.out hjx)
              have Hbad := hid (show (!tagN tags[j]) = true → mayQ q = 5 from fun hp => Hno.out (by rw [Hnc.out, List.any_eq_true.2 ⟨_, List.getElem_mem hjx, hp⟩]; rfl))
              have Ht := hid (show tagN tags[j] = (partsT tags[j]).2.2 from rfl)
              generalize tags[j] = x at *
              go_wp2_with fail
              refine (refParts_at x _ hs).mono ?_
              rintro e w4 ⟨rfl, hE⟩
              have HE4 := hid (Ext.trans' HE3.out hE)
              clear hE f0 x0 x1
              cases hp : (partsT x).2.2
              · have hr := hid (Hbad.out (by rw [Ht.out, hp]; rfl))
                have HEf := hid (Ext.trans' HE0.out (Ext.trans' HE2.out HE4.out))
                go_wp2
                go_ret
                exact ⟨by rw [hr.out]; rfl, HEf.out⟩
              · have hn3 := hid (Hk3.out (by rw [Ht.out, hp]; rfl))
                go_wp2_with fail
                go_roundw
                case rel => exact ⟨j + 1, by omega, by go_num, HE4, hn3⟩
                case measure => simp [intOf]; omega
            · obtain rfl : j = tl := by omega
              have hjt : ¬ ((j : Int) < (j : Int)) := by omega
              have Htags := hid (any_none (p := fun s => !tagN s) (l := tags) fun j' hj => HN3.out j' (by have := htl.out; omega) hj)
              go_wp2_with fail
              clear x0 x1 hjt HN3
              have Hno5 := Hno
              clear Hno
              go_loopw [11] (fun i wy => ∃ j' : Nat, j' ≤ ul ∧ i = .int .i64 (j' : Int) ∧ Hid (Ext wb wy) ∧ Hid (∀ j'' (hj : j'' < j') (h : j'' < types.length), (!mayN types[j'']) = false)) (fun i _ => ul - (intOf i).toNat)
              case atStart => exact ⟨0, by omega, rfl, HE3, fun j hj => by omega⟩
              case round =>
                obtain ⟨j', hj', rfl, HE4, HN4⟩ := hrel
                obtain ⟨x0, x1⟩ := (HX.out.ext HE4.out).cells
                by_cases hlt4 : j' < ul
                · have hjx : j' < types.length := by have := hul.out; omega
                  have hjt : (j' : Int) < (ul : Int) := by omega
                  have hj00 : ¬ ((j' : Int) < 0) := by omega
                  have hj0 : (0 : Int) ≤ (j' : Int) := by omega
                  obtain ⟨tb, to', rfl, -, f0, hs⟩ := txt_at (HU2.out.grow HE4.out) j' hjx
                  have Hk3 := hid (prefix_next (p := fun s => !mayN s) HN4.out hjx)
                  have Hbad := hid (show (!mayN types[j']) = true → mayQ q = 5 from fun hp => Hno5.out (by rw [Hnc.out, Bool.or_eq_true]; exact .inr (List.any_eq_true.2 ⟨_, List.getElem_mem hjx, hp⟩)))
                  generalize types[j'] = x at *
                  go_wp2_with fail
                  refine (refMayN_at x _).mono ?_
                  rintro e w4 ⟨rfl, hE⟩
                  have HE5 := hid (Ext.trans' HE4.out hE)
                  clear hE f0 x0 x1
                  cases hp : mayN x
                  · have hr := hid (Hbad.out (by rw [hp]; rfl))
                    have HEf := hid (Ext.trans' HE0.out (Ext.trans' HE2.out HE5.out))
                    go_wp2
                    go_ret
                    exact ⟨by rw [hr.out]; rfl, HEf.out⟩
                  · have hn3 := hid (Hk3.out (by rw [hp]; rfl))
                    go_wp2_with fail
                    go_roundw
                    case rel => exact ⟨j' + 1, by omega, by go_num, HE5, hn3⟩
                    case measure => simp [intOf]; omega
                · obtain rfl : j' = ul := by omega
                  have hjt : ¬ ((j' : Int) < (j' : Int)) := by omega
                  have Htypes := hid (any_none (p := fun s => !mayN s) (l := types) fun j'' hj => HN4.out j'' (by have := hul.out; omega) hj)
                  have Hn2 := hid (Hk.out (by rw [Hnc.out, Htags.out, Htypes.out]; rfl))
                  go_wp2_with fail
                  have hcc := refRise_at (HT2.out.grow HE4.out)
                  refine hcc.mono ?_
                  clear hcc x0 x1 hjt HN4
                  rintro e w5 ⟨rfl, hE⟩
                  have HE5 := hid (Ext.trans' HE4.out hE)
                  clear hE
                  obtain ⟨x0, x1⟩ := (HX.out.ext HE5.out).cells
                  go_wp2_with fail
                  have hcc := refRise_at (HU2.out.grow HE5.out)
                  refine hcc.mono ?_
                  clear hcc x0 x1
                  rintro e w6 ⟨rfl, hE⟩
                  have HE6 := hid (Ext.trans' HE2.out (Ext.trans' HE5.out hE))
                  clear hE
                  rw [Hrc.out] at Hr2
                  generalize riseB tags = r1 at *
                  generalize riseB types = r2 at *
                  cases rb <;> cases r1 <;> cases r2
                  ·
                    have hv : (q.take (k' + 1)).any riseC = true := by rw [Hr2.out]; rfl
                    have Hv := hid hv
                    clear hv
                    go_wp2_with fail
                    go_roundw
                    case rel => exact ⟨k' + 1, by omega, by go_num, by rw [Hv.out]; rfl, HE6, Hn2⟩
                    case measure => simp [intOf]; omega
                  ·
                    have hv : (q.take (k' + 1)).any riseC = true := by rw [Hr2.out]; rfl
                    have Hv := hid hv
                    clear hv
                    go_wp2_with fail
                    go_roundw
                    case rel => exact ⟨k' + 1, by omega, by go_num, by rw [Hv.out]; rfl, HE6, Hn2⟩
                    case measure => simp [intOf]; omega
                  ·
                    have hv : (q.take (k' + 1)).any riseC = true := by rw [Hr2.out]; rfl
                    have Hv := hid hv
                    clear hv
                    go_wp2_with fail
                    go_roundw
                    case rel => exact ⟨k' + 1, by omega, by go_num, by rw [Hv.out]; rfl, HE6, Hn2⟩
                    case measure => simp [intOf]; omega
                  ·
                    have hv : (q.take (k' + 1)).any riseC = false := by rw [Hr2.out]; rfl
                    have Hv := hid hv
                    clear hv
                    go_wp2_with fail
                    go_roundw
                    case rel => exact ⟨k' + 1, by omega, by go_num, by rw [Hv.out]; rfl, HE6, Hn2⟩
                    case measure => simp [intOf]; omega
                  ·
                    have hv : (q.take (k' + 1)).any riseC = true := by rw [Hr2.out]; rfl
                    have Hv := hid hv
                    clear hv
                    go_wp2_with fail
                    go_roundw
                    case rel => exact ⟨k' + 1, by omega, by go_num, by rw [Hv.out]; rfl, HE6, Hn2⟩
                    case measure => simp [intOf]; omega
                  ·
                    have hv : (q.take (k' + 1)).any riseC = true := by rw [Hr2.out]; rfl
                    have Hv := hid hv
                    clear hv
                    go_wp2_with fail
                    go_roundw
                    case rel => exact ⟨k' + 1, by omega, by go_num, by rw [Hv.out]; rfl, HE6, Hn2⟩
                    case measure => simp [intOf]; omega
                  ·
                    have hv : (q.take (k' + 1)).any riseC = true := by rw [Hr2.out]; rfl
                    have Hv := hid hv
                    clear hv
                    go_wp2_with fail
                    go_roundw
                    case rel => exact ⟨k' + 1, by omega, by go_num, by rw [Hv.out]; rfl, HE6, Hn2⟩
                    case measure => simp [intOf]; omega
                  ·
                    have hv : (q.take (k' + 1)).any riseC = true := by rw [Hr2.out]; rfl
                    have Hv := hid hv
                    clear hv
                    go_wp2_with fail
                    go_roundw
                    case rel => exact ⟨k' + 1, by omega, by go_num, by rw [Hv.out]; rfl, HE6, Hn2⟩
                    case measure => simp [intOf]; omega
        · obtain rfl : k' = k := by omega
          have hlt' : ¬ ((k' : Int) < (k' : Int)) := by omega
          have hall : q.take k' = q := List.take_of_length_le (by have := Hn.out; omega)
          have Hnone := hid (any_none (p := noneC) (l := q) fun j hj => HN.out j (by have := Hn.out; omega) hj)
          rw [hall]
          cases h3 : q.any riseC
          · have hr := hid (show mayQ q = 0 by rw [Hq2.out, Hnone.out, h3]; rfl)
            go_wp2
            go_ret
            exact ⟨by rw [hr.out]; rfl, Ext.trans' HE0.out HE.out⟩
          · have hr := hid (show mayQ q = 1 by rw [Hq2.out, Hnone.out, h3]; rfl)
            go_wp2
            go_ret
            exact ⟨by rw [hr.out]; rfl, Ext.trans' HE0.out HE.out⟩
end Go.Proofs.YtakebdeldndaaaaGreatDoor

/- Which definitions may be, as the document says. -/
namespace Go.Proofs.YtakebdeldndaaaaGreatDoor
open Go Go.RowKit
set_option linter.unusedSimpArgs false
set_option linter.unusedVariables false

set_option maxRecDepth 100000 in
set_option maxHeartbeats 4000000 in
theorem refMayDef_at {w : World} {A : Option Addr} {n c : Nat} {d : DefV} (h : SlR RCl w (· < w.heap.size) A n c d.q) :
    Calls Tryz.prog 88 #[defVal d A n c] w fun e w' => e = .returned (.int .i64 (mayDef d)) ∧ Ext w w' := by
  unfold defVal
  have H := hid h
  have hst := str_toList
  clear h
  have HE0 := hid (ext_alloc w (.cells #[.int .i64 d.kind, .string (str d.field), .slice A n c] 72))
  have Hbx := hid (show DefBox w.heap.size d A n c (w.alloc (.cells #[.int .i64 d.kind, .string (str d.field), .slice A n c] 72)) from heap_alloc_last _ _)
  obtain ⟨b0, b1, b2⟩ := Hbx.out.cells
  go_enter Tryz.func88, Tryz.ntmps88
  by_cases h1 : d.kind < 1
  · have hr := hid (show mayDef d = 1 by unfold mayDef; rw [if_pos (.inl h1)])
    go_wp2
    go_ret
    exact ⟨by rw [hr.out]; rfl, HE0.out⟩
  by_cases h4 : 4 < d.kind
  · have hr := hid (show mayDef d = 1 by unfold mayDef; rw [if_pos (.inr h4)])
    go_wp2
    go_ret
    exact ⟨by rw [hr.out]; rfl, HE0.out⟩
  have Hr := hid (show mayDef d = if mayQ d.q ≠ 0 then mayQ d.q else if d.kind = 2 ∨ d.kind = 3 then (if mayN d.field = true then 0 else 5) else if d.field = [] then 0 else 5 by unfold mayDef; rw [if_neg (by omega)])
  go_wp2_with fail
  refine (refQMay_at (H.out.grow HE0.out)).mono ?_
  rintro e w1 ⟨rfl, hE⟩
  have HE1 := hid (Ext.trans' HE0.out hE)
  have Hb1 := hid (Hbx.out.ext hE)
  obtain ⟨c0, c1, c2⟩ := Hb1.out.cells
  clear hE b0 b1 b2
  by_cases hq : mayQ d.q = 0
  rotate_left
  · have hr := hid (show mayDef d = mayQ d.q by rw [Hr.out, if_pos hq])
    generalize mayQ d.q = x at hq hr ⊢
    go_wp2
    go_ret
    exact ⟨by rw [hr.out]; rfl, HE1.out⟩
  have Hr2 := hid (show mayDef d = if d.kind = 2 ∨ d.kind = 3 then (if mayN d.field = true then 0 else 5) else if d.field = [] then 0 else 5 by rw [Hr.out, if_neg (by rw [hq]; decide)])
  rw [hq]
  clear hq Hr
  go_wp2_with fail
  refine (refMayN_at d.field w1).mono ?_
  rintro e w2 ⟨rfl, hE⟩
  have HE2 := hid (Ext.trans' HE1.out hE)
  have Hb2 := hid (Hb1.out.ext hE)
  clear hE c0 c1 c2
  obtain ⟨c0, c1, c2⟩ := Hb2.out.cells
  by_cases hk : d.kind = 2 ∨ d.kind = 3
  · have Hr3 := hid (show mayDef d = if mayN d.field = true then 0 else 5 by rw [Hr2.out, if_pos hk])
    rcases hk with hk | hk
    all_goals
      rw [hk] at c0
      clear hk h1 h4
      cases hmn : mayN d.field
      · have hr := hid (show mayDef d = 5 by rw [Hr3.out, hmn]; rfl)
        go_wp2
        go_ret
        exact ⟨by rw [hr.out]; rfl, HE2.out⟩
      · have hr := hid (show mayDef d = 0 by rw [Hr3.out, hmn]; rfl)
        go_wp2
        go_ret
        exact ⟨by rw [hr.out]; rfl, HE2.out⟩
  · have Hr3 := hid (show mayDef d = if d.field = [] then 0 else 5 by rw [Hr2.out, if_neg hk])
    have k2 : (d.kind == 2) = false := beq_eq_false_iff_ne.2 fun e => hk (.inl e)
    have k3 : (d.kind == 3) = false := beq_eq_false_iff_ne.2 fun e => hk (.inr e)
    have k2' : ¬ (d.kind = 2) := fun e => hk (.inl e)
    have k3' : ¬ (d.kind = 3) := fun e => hk (.inr e)
    generalize mayN d.field = mn at *
    by_cases hf : d.field = []
    · have hr := hid (show mayDef d = 0 by rw [Hr3.out, if_pos hf])
      have hfe : (d.field == []) = true := by rw [hf]; rfl
      rw [hf] at c1
      clear hk h1 h4 hf
      go_wp2
      go_ret
      exact ⟨by rw [hr.out]; rfl, HE2.out⟩
    · have hr := hid (show mayDef d = 5 by rw [Hr3.out, if_neg hf])
      have hfe : (d.field == []) = false := beq_eq_false_iff_ne.2 hf
      clear hk h1 h4
      generalize d.field = f at c1 hfe hf
      go_wp2
      go_ret
      exact ⟨by rw [hr.out]; rfl, HE2.out⟩
structure RefSt (w : World) (S : Nat → Prop) (y : Nat) (d : DefV) (D : Ents) : Prop where
  box : ∃ A c B m b, w.heap[y]? = some (.cells #[.int .i64 d.kind, .string (str d.field), .slice A d.q.length c, .slice B m b] 158) ∧ SlR RCl w (Out S w) A d.q.length c d.q ∧ SlR REnt w (Out S w) B m b D
  yIn : S y
section
variable {w w' : World} {S S' : Nat → Prop} {y a b : Nat} {d : DefV} {D D' : Ents}
theorem RefSt.lt (h : RefSt w S y d D) : y < w.heap.size := by
  obtain ⟨A, c, B, m, b, h1, -⟩ := h.box
  exact (Array.getElem?_eq_some_iff.1 h1).1
theorem RefSt.more (h : RefSt w S y d D) (hE : Ext w w') (hS : ∀ k, S' k → S k ∨ w.heap.size ≤ k) (hy : S' y) : RefSt w' S' y d D := by
  obtain ⟨A, c, B, m, b, h1, h2, h3⟩ := h.box
  exact ⟨⟨A, c, B, m, b, (hE.block y h.lt).trans h1, slR_more h2 hE hS, slR_more h3 hE hS⟩, hy⟩
theorem RefSt.ext (h : RefSt w S y d D) (hE : Ext w w') : RefSt w' S y d D := h.more hE (fun _ hk => .inl hk) h.yIn
theorem RefSt.kept (h : RefSt w S y d D) (hk : Kept2 a b w w') (ha : S a) (hb : S b) (h1 : y ≠ a) (h2 : y ≠ b) : RefSt w' S y d D := by
  obtain ⟨A, c, B, m, b', g1, g2, g3⟩ := h.box
  exact ⟨⟨A, c, B, m, b', (hk.block y h.lt h1 h2).trans g1, slR_kept g2 hk ha hb, slR_kept g3 hk ha hb⟩, h.yIn⟩
end
set_option maxRecDepth 100000 in
set_option maxHeartbeats 4000000 in
theorem refNew_at {w : World} {n0 : Nat} {A : Option Addr} {n c : Nat} {d : DefV} (h : SlR RCl w (· < n0) A n c d.q) (hn0 : n0 ≤ w.heap.size) :
    Calls Tryz.prog 100 #[defVal d A n c] w fun e w' => Ext w w' ∧ ((mayDef d ≠ 0 ∧ e = .returned (.tuple #[.pointer none, .int .i64 (mayDef d)])) ∨
      (mayDef d = 0 ∧ ∃ y, e = .returned (.tuple #[.pointer (some ⟨y, 0, none⟩), .int .i64 0]) ∧ w.heap.size ≤ y ∧ (∀ S : Nat → Prop, (∀ k, S k → n0 ≤ k) → S y → RefSt w' S y d []))) := by
  have hv := hid (show defVal d A n c = .agg #[.int .i64 d.kind, .string (str d.field), .slice A n c] from rfl)
  rw [hv.out]
  have H := hid h
  clear h
  have HE0 := hid (ext_alloc w (.cells #[.int .i64 d.kind, .string (str d.field), .slice A n c] 72))
  have Hbx := hid (show DefBox w.heap.size d A n c (w.alloc (.cells #[.int .i64 d.kind, .string (str d.field), .slice A n c] 72)) from heap_alloc_last _ _)
  obtain ⟨b0, b1, b2⟩ := Hbx.out.cells
  have hmd := refMayDef_at ((H.out.mono fun k hk => Nat.lt_of_lt_of_le hk hn0).grow HE0.out)
  rw [hv.out] at hmd
  go_enter Tryz.func100, Tryz.ntmps100
  go_wp2_with fail
  refine hmd.mono ?_
  rintro e w1 ⟨rfl, hE⟩
  have HE1 := hid (Ext.trans' HE0.out hE)
  have Hb1 := hid (Hbx.out.ext hE)
  clear hE hmd b0 b1 b2
  by_cases hm : mayDef d = 0
  rotate_left
  · have Hm := hid hm
    have hx : (mayDef d != 0) = true := by simpa using hm
    have hx2 : (mayDef d == 0) = false := by simpa using hm
    clear hm
    go_wp2
    go_ret2
    exact ⟨HE1.out, .inl ⟨Hm.out, rfl⟩⟩
  · have Hm := hid hm
    rw [hm]
    have hn := H.out.1
    subst hn
    obtain ⟨c0, c1, c2⟩ := Hb1.out.cells
    clear hm
    have HE2 := hid (Ext.trans' HE1.out (ext_alloc w1 (.cells #[.int .i64 d.kind, .string (str d.field), .slice A d.q.length c, .slice none 0 0] 158)))
    have HR := hid (show ∀ S : Nat → Prop, (∀ k, S k → n0 ≤ k) → S w1.heap.size → RefSt (w1.alloc (.cells #[.int .i64 d.kind, .string (str d.field), .slice A d.q.length c, .slice none 0 0] 158)) S w1.heap.size d [] from fun S hS hy =>
      ⟨⟨A, c, none, 0, 0, heap_alloc_last _ _, (H.out.ext fun k hk => HE2.out.block k (Nat.lt_of_lt_of_le hk hn0)).mono fun k hk => ⟨Nat.lt_of_lt_of_le hk (Nat.le_trans hn0 HE2.out.size), fun h => by have := hS k h; omega⟩, slR_nil _ _⟩, hy⟩)
    have hsz := HE1.out.size
    go_wp2
    go_ret2
    exact ⟨HE2.out, .inr ⟨Hm.out, _, rfl, hsz, HR.out⟩⟩
end Go.Proofs.YtakebdeldndaaaaGreatDoor

/- The reference's entries: what is found, what is set. -/
namespace Go.Proofs.YtakebdeldndaaaaGreatDoor
open Go Go.RowKit
set_option linter.unusedSimpArgs false
set_option linter.unusedVariables false

def midR (k : Str) (n : Int) (kp : Bool) (s : Ents × Bool) (p : List UInt8 × Int) : Ents × Bool :=
  if (!s.2 && !bytesBefore p.1 k) = true then (if kp = true then s.1 ++ [(k, n)] else s.1, true) else s
def stepR (k : Str) (n : Int) (kp : Bool) (s : Ents × Bool) (p : List UInt8 × Int) : Ents × Bool :=
  if (p.1 == k) = true then midR k n kp s p else ((midR k n kp s p).1 ++ [(p.1, p.2)], (midR k n kp s p).2)
def stR (k : Str) (n : Int) (kp : Bool) (D : Ents) : Ents × Bool := D.foldl (stepR k n kp) ([], false)
def endR (k : Str) (n : Int) (kp : Bool) (s : Ents × Bool) : Ents := if (!s.2 && kp) = true then s.1 ++ [(k, n)] else s.1
theorem stR_take (k : Str) (n : Int) (kp : Bool) {D : Ents} {j : Nat} (h : j < D.length) : stR k n kp (D.take (j + 1)) = stepR k n kp (stR k n kp (D.take j)) D[j] := by
  unfold stR
  rw [List.take_succ_eq_append_getElem h, List.foldl_append]; rfl
theorem fold_put (k : Str) (n : Int) (kp : Bool) : ∀ (D out : Ents), D.foldl (stepR k n kp) (out, true) = (out ++ delI k D, true)
  | [], out => by simp [delI]
  | p :: D, out => by
    rw [List.foldl_cons]
    have hm : midR k n kp (out, true) p = (out, true) := rfl
    by_cases h : (p.1 == k) = true
    · have e : stepR k n kp (out, true) p = (out, true) := by unfold stepR; rw [if_pos h, hm]
      rw [e, fold_put k n kp D out]
      have e2 : delI k (p :: D) = delI k D := by unfold delI; rw [List.filter_cons, h]; rfl
      rw [e2]
    · have e : stepR k n kp (out, true) p = (out ++ [p], true) := by unfold stepR; rw [if_neg h, hm]
      rw [e, fold_put k n kp D (out ++ [p])]
      have h' : (p.1 == k) = false := by simpa using h
      have e2 : delI k (p :: D) = p :: delI k D := by unfold delI; rw [List.filter_cons, h']; rfl
      rw [e2, List.append_assoc]; rfl
theorem ins_head {x : List UInt8 × Int} : ∀ {E : Ents}, (∀ y ∈ E, bytesBefore x.1 y.1 = true) → insI x E = x :: E
  | [], _ => rfl
  | y :: r, h => by unfold insI; rw [if_pos (h y (by simp))]
theorem fold_set (k : Str) (n : Int) (kp : Bool) : ∀ (D out : Ents), UpI D → endR k n kp (D.foldl (stepR k n kp) (out, false)) = out ++ (if kp = true then insI (k, n) (delI k D) else delI k D)
  | [], out, _ => by
    show endR k n kp (out, false) = _
    unfold endR
    cases kp <;> simp [delI, insI]
  | p :: D, out, hu => by
    obtain ⟨h1, h2⟩ := List.pairwise_cons.1 hu
    rw [List.foldl_cons]
    cases hb : bytesBefore p.1 k
    · have hm : midR k n kp (out, false) p = (if kp = true then out ++ [(k, n)] else out, true) := by unfold midR; rw [hb]; rfl
      have hall : ∀ y ∈ delI k D, bytesBefore k y.1 = true := fun y hy => by
        have hy2 := h1 y (List.mem_filter.1 hy).1
        by_cases e : p.1 = k
        · rw [← e]; exact hy2
        · rcases tb_total p.1 k e with h | h
          · rw [h] at hb; cases hb
          · exact tb_trans h hy2
      by_cases h : (p.1 == k) = true
      · have e : stepR k n kp (out, false) p = (if kp = true then out ++ [(k, n)] else out, true) := by unfold stepR; rw [if_pos h, hm]
        have e2 : delI k (p :: D) = delI k D := by unfold delI; rw [List.filter_cons, h]; rfl
        rw [e, fold_put, e2]
        unfold endR
        cases kp
        · simp
        · simp only [Bool.not_true, Bool.false_and, Bool.false_eq_true, if_false, if_true]
          rw [ins_head (x := (k, n)) hall, List.append_assoc]; rfl
      · have e : stepR k n kp (out, false) p = ((if kp = true then out ++ [(k, n)] else out) ++ [p], true) := by unfold stepR; rw [if_neg h, hm]
        have h' : (p.1 == k) = false := by simpa using h
        have e2 : delI k (p :: D) = p :: delI k D := by unfold delI; rw [List.filter_cons, h']; rfl
        have hkp : bytesBefore k p.1 = true := by
          rcases tb_total p.1 k (by simpa using h) with h | h
          · rw [h] at hb; cases hb
          · exact h
        rw [e, fold_put, e2]
        unfold endR
        cases kp
        · simp
        · simp only [Bool.not_true, Bool.false_and, Bool.false_eq_true, if_false, if_true]
          rw [ins_head (x := (k, n)) (fun y hy => by rcases List.mem_cons.1 hy with rfl | hy; exact hkp; exact hall y hy), List.append_assoc, List.append_assoc]; rfl
    · have hne := tb_ne hb
      have h' : (p.1 == k) = false := beq_eq_false_iff_ne.2 hne
      have hm : midR k n kp (out, false) p = (out, false) := by unfold midR; rw [hb]; rfl
      have e : stepR k n kp (out, false) p = (out ++ [p], false) := by unfold stepR; rw [if_neg (by rw [h']; decide), hm]
      have e2 : delI k (p :: D) = p :: delI k D := by unfold delI; rw [List.filter_cons, h']; rfl
      rw [e, fold_set k n kp D (out ++ [p]) h2, e2]
      cases kp
      · simp
      · simp only [if_true]
        have e3 : insI (k, n) (p :: delI k D) = p :: insI (k, n) (delI k D) := by
          rw [insI]
          rw [if_neg (by show ¬ bytesBefore k p.1 = true; rw [tb_asymm hb]; decide)]
        rw [e3, List.append_assoc]; rfl
theorem set_end (d : DefV) (k : Str) (n : Int) {D : Ents} (hu : UpI D) {kp : Bool} (hk : kp = (n != 0 || decide (d.kind = 3))) : endR k n kp (stR k n kp D) = setF d k n D := by
  unfold stR
  rw [fold_set k n kp D [] hu, List.nil_append]
  unfold setF putI
  rw [hk]
  by_cases h : n = 0 ∧ d.kind ≠ 3
  · rw [if_pos h, if_neg (by rw [h.1, decide_eq_false h.2]; decide)]
  · rw [if_neg h, if_pos]
    by_cases h0 : n = 0
    · have h3 : d.kind = 3 := Classical.byContradiction fun h3 => h ⟨h0, h3⟩
      rw [h3]; simp
    · simp [h0]
theorem len_stR (k : Str) (n : Int) (kp : Bool) {D : Ents} : ∀ j, (stR k n kp (D.take j)).1.length ≤ 2 * j := fun j => by
  induction j with
  | zero => simp [stR]
  | succ j ih =>
    by_cases h : j < D.length
    · rw [stR_take k n kp h]
      have hm : ∀ s : Ents × Bool, (midR k n kp s D[j]).1.length ≤ s.1.length + 1 := fun s => by
        unfold midR; split
        · split <;> simp
        · omega
      have := hm (stR k n kp (D.take j))
      unfold stepR
      split
      · omega
      · simp only [List.length_append, List.length_cons, List.length_nil]; omega
    · rw [List.take_of_length_le (by omega)]
      rw [List.take_of_length_le (by omega)] at ih
      omega
set_option maxRecDepth 100000 in
theorem refFits_at (n : Int) (w : World) : Calls Tryz.prog 148 #[.int .i64 n] w fun e w' => e = .returned (.bool (fitsN n)) ∧ w' = w := by
  go_enter Tryz.func148, Tryz.ntmps148
  by_cases h1 : -1125899906842624 ≤ n
  · by_cases h2 : n ≤ 1125899906842624
    · have hr := hid (show fitsN n = true from decide_eq_true ⟨h1, h2⟩)
      go_wp2
      go_ret
      exact ⟨by rw [hr.out]; rfl, rfl⟩
    · have hr := hid (show fitsN n = false from decide_eq_false fun h => h2 h.2)
      go_wp2
      go_ret
      exact ⟨by rw [hr.out]; rfl, rfl⟩
  · have hr := hid (show fitsN n = false from decide_eq_false fun h => h1 h.1)
    go_wp2
    go_ret
    exact ⟨by rw [hr.out]; rfl, rfl⟩
theorem RefSt.cells {w : World} {S : Nat → Prop} {y : Nat} {d : DefV} {D : Ents} (h : RefSt w S y d D) : ∃ A c B b, w.cell? ⟨y, 0, none⟩ = some (.int .i64 d.kind) ∧ w.cell? ⟨y, 1, none⟩ = some (.string (str d.field)) ∧ w.cell? ⟨y, 2, none⟩ = some (.slice A d.q.length c) ∧ w.cell? ⟨y, 3, none⟩ = some (.slice B D.length b) ∧
    SlR RCl w (Out S w) A d.q.length c d.q ∧ SlR REnt w (Out S w) B D.length b D ∧ (∀ o, w.frozen? ⟨y, o, none⟩ = false) := by
  obtain ⟨A, c, B, m, b, h1, h2, h3⟩ := h.box
  obtain rfl := h3.1
  refine ⟨A, c, B, b, ?_, ?_, ?_, ?_, h2, h3, fun o => by simp [World.frozen?, h1]⟩ <;> · rw [cell_of_row _ _ _ _ _ _ h1]; rfl
set_option maxRecDepth 100000 in
set_option maxHeartbeats 2000000 in
theorem refGet_at {w : World} {S : Nat → Prop} {y : Nat} {d : DefV} {D : Ents} (h : RefSt w S y d D) (key : Str) :
    Calls Tryz.prog 147 #[.pointer (some ⟨y, 0, none⟩), .string (str key)] w fun e w' => e = .returned (.int .i64 (atI D key)) ∧ w' = w := by
  obtain ⟨A, c, B, b, -, -, -, c3, -, hL, -⟩ := h.cells
  have hnc := hL.2.1
  have hcm := hL.2.2.1
  have H := hid hL
  have hst := str_toList
  clear h hL
  generalize hl : D.length = n at *
  have hn := hid hl
  clear hl
  go_enter Tryz.func147, Tryz.ntmps147
  go_wp2_with fail
  go_loopw [5] (fun i wr => wr = w ∧ ∃ k : Nat, k ≤ n ∧ i = .int .i64 (k : Int) ∧ Hid (∀ j (hj : j < k) (h : j < D.length), (D[j].1 == key) = false)) (fun i _ => n - (intOf i).toNat)
  case atStart => exact ⟨rfl, 0, by omega, rfl, fun j hj => by omega⟩
  case round =>
    obtain ⟨rfl, k, hk, rfl, HN⟩ := hrel
    by_cases hlt : k < n
    · have hkx : k < D.length := by have := hn.out; omega
      have hlt' : (k : Int) < (n : Int) := by omega
      have hk00 : ¬ ((k : Int) < 0) := by omega
      have hk0 : (0 : Int) ≤ (k : Int) := by omega
      obtain ⟨b', o, rfl, -, f0, f1, -⟩ := field_at H.out k hkx
      cases hpx : (D[k].1 == key)
      · have hn2 := hid (prefix_next (p := fun f : Str × Int => f.1 == key) HN.out hkx hpx)
        generalize D[k].1 = x at f0 hpx
        generalize D[k].2 = y at f1
        go_wp2_with fail
        go_roundw
        case rel => exact ⟨trivial, k + 1, by omega, by go_num, hn2⟩
        case measure => simp [intOf]; omega
      · have hb := hid (find_upto hkx hpx HN.out)
        have hr := hid (show atI D key = D[k].2 by unfold atI; have := hb.out; simp only [valF] at this; rw [this]; rfl)
        generalize D[k].1 = x at f0 hpx
        generalize D[k].2 = y at f1 hr
        go_wp2
        go_ret
        exact ⟨by rw [hr.out]; rfl, rfl⟩
    · obtain rfl : k = n := by omega
      have hlt' : ¬ ((k : Int) < (k : Int)) := by omega
      have hb := hid (find_no (fs := D) (f := key) fun j h => HN.out j (by have := hn.out; omega) h)
      have hr := hid (show atI D key = 0 by unfold atI; have := hb.out; simp only [valF] at this; rw [this]; rfl)
      go_wp2
      go_ret
      exact ⟨by rw [hr.out]; rfl, rfl⟩
end Go.Proofs.YtakebdeldndaaaaGreatDoor

/- The reference's set. -/
namespace Go.Proofs.YtakebdeldndaaaaGreatDoor
open Go Go.RowKit
set_option linter.unusedSimpArgs false
set_option linter.unusedVariables false

theorem RefSt.setL {w : World} {S : Nat → Prop} {y : Nat} {d : DefV} {D D' : Ents} (h : RefSt w S y d D) {B : Option Addr} {b : Nat} (hL : SlR REnt w (Out S w) B D'.length b D') :
    RefSt (w.setCell ⟨y, 3, none⟩ (.slice B D'.length b)) S y d D' ∧ Kept2 y y w (w.setCell ⟨y, 3, none⟩ (.slice B D'.length b)) := by
  obtain ⟨A, c, B0, m, b0, h1, h2, h3⟩ := h.box
  have hk : Kept2 y y w (w.setCell ⟨y, 3, none⟩ (.slice B D'.length b)) := ⟨rfl, rfl, rfl, by simp, fun k hk h1 _ => heap_setCell_other w ⟨y, 3, none⟩ k _ (fun e => h1 e)⟩
  exact ⟨⟨⟨A, c, B, D'.length, b, heap_setCell_row h1 _, slR_kept h2 hk h.yIn h.yIn, slR_kept hL hk h.yIn h.yIn⟩, h.yIn⟩, hk⟩
theorem le_not (x k : Str) : (Op.bytesLess k x || k == x) = !bytesBefore x k := by
  rw [tb_less]
  by_cases e : x = k
  · subst e; rw [tb_irrefl]; simp
  · rcases tb_total x k e with h | h
    · rw [h, tb_asymm h, beq_eq_false_iff_ne.2 fun h => e h.symm]; rfl
    · rw [h, tb_asymm h]; rfl
set_option maxRecDepth 100000 in
set_option maxHeartbeats 4000000 in
theorem refSet_at {w : World} {S : Nat → Prop} {y : Nat} {d : DefV} {D : Ents} (h : RefSt w S y d D) (key : Str) (v : Int) (hks : Short key) (hu : UpI D) (hD : D.length < 1000000) (hSlt : ∀ k, S k → k < w.heap.size) :
    Calls Tryz.prog 146 #[.pointer (some ⟨y, 0, none⟩), .string (str key), .int .i64 v] w fun e w' => e = .returned (.tuple #[]) ∧ RefSt w' S y d (setF d key v D) ∧ Kept2 y y w w' := by
  obtain ⟨A, c, B, b, c0, -, -, c3, -, hL, hfz⟩ := h.cells
  have hnc := hL.2.1
  have hcm := hL.2.2.1
  have HL := hid hL
  have HS := hid h
  have hst := str_toList
  have Hks := hid hks
  have C0 := hid c0; have C3 := hid c3
  obtain ⟨kp, hkp⟩ : ∃ kp, kp = (v != 0 || decide (d.kind = 3)) := ⟨_, rfl⟩
  have Hset := hid (set_end d key v hu hkp)
  have Hlen := hid (len_stR key v kp (D := D))
  have hkc := hid hkp
  clear h hL hks hu c0 c3 hfz hkp
  generalize hl : D.length = n at *
  have hn := hid hl
  clear hl
  go_enter Tryz.func146, Tryz.ntmps146
  go_wp2_with fail
  go_loopw [6, 7, 8] (fun u pb i wr => ∃ k : Nat, k ≤ n ∧ i = .int .i64 (k : Int) ∧ pb = .bool (stR key v kp (D.take k)).2 ∧ Hid (OwnK REnt 150 (fun _ => False) wr w.heap.size u (stR key v kp (D.take k)).1) ∧ Hid (Ext w wr)) (fun _ _ i _ => n - (intOf i).toNat)
  case atStart => exact ⟨0, by omega, rfl, rfl, hid (OwnK.empty w _ (Nat.le_refl _)), hid (ext_alloc _ _)⟩
  case round =>
    obtain ⟨k, hk, rfl, rfl, HO, HE⟩ := hrel
    have c0 := cell_below HE.out C0.out; have c3 := cell_below HE.out C3.out
    by_cases hlt : k < n
    · have hkx : k < D.length := by have := hn.out; omega
      have hlt' : (k : Int) < (n : Int) := by omega
      have hk00 : ¬ ((k : Int) < 0) := by omega
      have hk0 : (0 : Int) ≤ (k : Int) := by omega
      obtain ⟨b', o, rfl, -, f0, f1, hsx⟩ := field_at HL.out k hkx
      have Hsx := hid hsx
      have Hnx := hid (stR_take key v kp hkx)
      have Hlk := hid (Hlen.out k)
      have f0 := cell_below HE.out f0; have f1 := cell_below HE.out f1
      have Hp := hid (show D[k] = (D[k].1, D[k].2) from rfl)
      generalize hx : D[k].1 = x at *
      generalize hz : D[k].2 = z at *
      rw [Hp.out] at Hnx
      have Hx := hid hx; have Hz := hid hz
      clear hx hz hsx Hp
      generalize stR key v kp (D.take k) = s at *
      obtain ⟨out, put⟩ := s
      go_upto_region 5 with (fail)
      go_cut [32] (fun cv wx => cv = .bool (!put && !bytesBefore x key) ∧ Hid (wx = wr))
      case first =>
        have hle := le_not x key
        cases put
        · cases hl1 : Op.bytesLess key x <;> cases hl2 : (key == x)
          all_goals
            rw [hl1, hl2] at hle
            have Hle := hid hle
            clear hle
            go_wp2_with fail
            go_meet
            case rel => exact ⟨by rw [← Hle.out]; rfl, hid rfl⟩
        · clear hle
          go_wp2_with fail
          go_meet
          case rel => exact ⟨rfl, hid rfl⟩
      case rest =>
      obtain ⟨rfl, Hwx⟩ := hcut
      obtain rfl := Hwx.out.symm
      clear Hwx
      have Hmid := hid (show midR key v kp (out, put) (x, z) = if (!put && !bytesBefore x key) = true then (if kp = true then out ++ [(key, v)] else out, true) else (out, put) from rfl)
      have Hstep := hid (show stepR key v kp (out, put) (x, z) = if (x == key) = true then midR key v kp (out, put) (x, z) else ((midR key v kp (out, put) (x, z)).1 ++ [(x, z)], (midR key v kp (out, put) (x, z)).2) from rfl)
      have hlo : out.length ≤ 2 * k := Hlk.out
      have hml : (midR key v kp (out, put) (x, z)).1.length ≤ 2 * k + 1 := by
        rw [Hmid.out]; split
        · split
          · simp only [List.length_append, List.length_cons, List.length_nil]; omega
          · show out.length ≤ _; omega
        · show out.length ≤ _; omega
      generalize midR key v kp (out, put) (x, z) = mid at *
      rw [Hstep.out] at Hnx
      clear Hstep Hlk
      generalize (!put && !bytesBefore x key) = cb at *
      dsimp only at HO ⊢
      go_upto_if 32 with (fail)
      go_cut [6, 7] (fun u b wx => b = .bool mid.2 ∧ Hid (OwnK REnt 150 (fun _ => False) wx w.heap.size u mid.1) ∧ Hid (Ext w wx))
      case first =>
        cases cb
        · have hm : mid = (out, put) := Hmid.out
          have Hm := hid hm
          clear hm hml
          go_wp2_with fail
          go_meet
          case rel => exact ⟨by rw [Hm.out], by rw [Hm.out]; exact HO, HE⟩
        · cases hkp : kp
          · have hm : mid = (out, true) := by rw [Hmid.out, hkp]; rfl
            have hz := hkc.out
            rw [hkp] at hz
            have hv0 : v = 0 := Classical.byContradiction fun h => by
              have : (v != 0) = true := by simpa using h
              rw [this] at hz; cases hz
            have h3 : ¬ d.kind = 3 := fun h => by rw [hv0, h] at hz; cases hz
            have h3b : (d.kind == 3) = false := beq_eq_false_iff_ne.2 h3
            subst hv0
            have Hm := hid hm
            clear hm hml hz hkp h3
            go_wp2_with fail
            go_meet
            case rel => exact ⟨by rw [Hm.out], by rw [Hm.out]; exact HO, HE⟩
          · have hm : mid = (out ++ [(key, v)], true) := by rw [Hmid.out, hkp]; rfl
            have Hm := hid hm
            have Hbox := hid (show ∃ cs, Rows REnt ((wr).alloc (.cells #[.string (str key), .int .i64 v] 150)) (fun _ => False) [(key, v)] cs ∧ RV ((wr).alloc (.cells #[.string (str key), .int .i64 v] 150)) (some ⟨(wr).heap.size, 0, none⟩) cs from
              ⟨_, Rows.single (field_mk (f := (key, v)) Hks.out), rv_cells wr [.string (str key), .int .i64 v] _⟩)
            have HAb := hid (HO.out.ext (ext_alloc wr (.cells #[.string (str key), .int .i64 v] 150)) fun _ h => h.elim)
            have HBb := hid (HE.out.alloc HE.out.size (.cells #[.string (str key), .int .i64 v] 150))
            have hszb := HE.out.size
            have hz := hkc.out
            rw [hkp] at hz
            clear hm hml hkp
            by_cases hv0 : v = 0
            · have h3 : d.kind = 3 := Classical.byContradiction fun h => by
                rw [hv0, decide_eq_false h] at hz; cases hz
              subst hv0
              rw [h3] at c0
              clear hz h3
              go_wp2_with (at_builtin; refine wpList_appK (w0 := w) (R := REnt) (xs := out) (base := w.heap.size) entinfo rfl (.tmp 43) (.tmp 47) rfl rfl HAb (fun _ h => h.elim) HBb (by simp; omega) (some ⟨wr.heap.size, 0, none⟩) 1 1 [(key, 0)] rfl rfl Hbox (by omega) (by omega) ?_; intro v2 W2 HA2 HB2 _; clear f0 f1 c0 c3)
              go_meet
              case rel => exact ⟨by rw [Hm.out], by rw [Hm.out]; exact HA2, HB2⟩
            · have hvb : (v != 0) = true := by simpa using hv0
              have hvb2 : (v == 0) = false := by simpa using hv0
              clear hz
              go_wp2_with (at_builtin; refine wpList_appK (w0 := w) (R := REnt) (xs := out) (base := w.heap.size) entinfo rfl (.tmp 43) (.tmp 47) rfl rfl HAb (fun _ h => h.elim) HBb (by simp; omega) (some ⟨wr.heap.size, 0, none⟩) 1 1 [(key, v)] rfl rfl Hbox (by omega) (by omega) ?_; intro v2 W2 HA2 HB2 _; clear f0 f1 c0 c3)
              go_meet
              case rel => exact ⟨by rw [Hm.out], by rw [Hm.out]; exact HA2, HB2⟩
      case rest =>
      obtain ⟨rfl, HO2, HE2⟩ := hcut
      clear f0 f1 c0 c3 HO HE
      have hE2 := HE2.out
      have c0 := cell_below HE2.out C0.out; have c3 := cell_below HE2.out C3.out
      obtain ⟨b'', o'', e'', -, f0, f1, -⟩ := field_at HL.out k hkx
      simp only [Option.some.injEq, Addr.mk.injEq, and_true] at e''
      obtain ⟨rfl, rfl⟩ := e''
      have f0 := cell_below HE2.out f0; have f1 := cell_below HE2.out f1
      rw [Hx.out] at f0
      rw [Hz.out] at f1
      cases hxk : (x == key)
      · rw [hxk] at Hnx
        have Hn2 := hid (show stR key v kp (D.take (k + 1)) = (mid.1 ++ [(x, z)], mid.2) from Hnx.out)
        have Hbox := hid (show ∃ cs, Rows REnt ((wc).alloc (.cells #[.string (str x), .int .i64 z] 150)) (fun _ => False) [(x, z)] cs ∧ RV ((wc).alloc (.cells #[.string (str x), .int .i64 z] 150)) (some ⟨(wc).heap.size, 0, none⟩) cs from
          ⟨_, Rows.single (field_mk (f := (x, z)) Hsx.out), rv_cells wc [.string (str x), .int .i64 z] _⟩)
        have HAb := hid (HO2.out.ext (ext_alloc wc (.cells #[.string (str x), .int .i64 z] 150)) fun _ h => h.elim)
        have HBb := hid (HE2.out.alloc HE2.out.size (.cells #[.string (str x), .int .i64 z] 150))
        have hszb := HE2.out.size
        clear Hnx
        go_wp2_with (at_builtin; refine wpList_appK (w0 := w) (R := REnt) (xs := mid.1) (base := w.heap.size) entinfo rfl (.tmp 59) (.tmp 67) rfl rfl HAb (fun _ h => h.elim) HBb (by simp; omega) (some ⟨wc.heap.size, 0, none⟩) 1 1 [(x, z)] rfl rfl Hbox (by omega) (by omega) ?_; intro v2 W2 HA2 HB2 _; clear f0 f1 c0 c3)
        go_roundw
        case rel => exact ⟨k + 1, by omega, by go_num, by rw [Hn2.out], by rw [Hn2.out]; exact HA2, HB2⟩
        case measure => simp [intOf]; omega
      · rw [hxk] at Hnx
        have Hn2 := hid (show stR key v kp (D.take (k + 1)) = mid from Hnx.out)
        clear Hnx
        go_wp2_with fail
        go_roundw
        case rel => exact ⟨k + 1, by omega, by go_num, by rw [Hn2.out], by rw [Hn2.out]; exact HO2, HE2⟩
        case measure => simp [intOf]; omega
    · obtain rfl : k = n := by omega
      have hlt' : ¬ ((k : Int) < (k : Int)) := by omega
      have hall : D.take k = D := List.take_of_length_le (by have := hn.out; omega)
      rw [hall] at HO ⊢
      have Hfin := hid (show (stR key v kp D).1.length ≤ 2 * k + 1 by have := Hlen.out k; rw [hall] at this; omega)
      clear hall
      generalize stR key v kp D = s at *
      obtain ⟨out, put⟩ := s
      have Hend := hid (show endR key v kp (out, put) = if (!put && kp) = true then out ++ [(key, v)] else out from rfl)
      have Hfl := hid (show out.length ≤ 2 * k + 1 from Hfin.out)
      rw [Hset.out] at Hend
      clear Hfin Hset Hlen
      dsimp only at HO ⊢
      have hsz := HE.out.size
      have HSr := hid (HS.out.ext HE.out)
      cases put
      · cases hkp : kp
        · have hz := hkc.out
          rw [hkp] at hz
          have hv0 : v = 0 := Classical.byContradiction fun h => by
            have : (v != 0) = true := by simpa using h
            rw [this] at hz; cases hz
          have h3 : ¬ d.kind = 3 := fun h => by rw [hv0, h] at hz; cases hz
          have h3b : (d.kind == 3) = false := beq_eq_false_iff_ne.2 h3
          subst hv0
          have He := hid (show setF d key 0 D = out by rw [Hend.out, hkp]; rfl)
          clear hz hkp h3
          obtain ⟨A2, c2, rfl, hL2⟩ := ownK_out HO.out (fun _ h => h.elim) hSlt
          obtain ⟨_, _, _, _, -, -, -, -, -, -, fz⟩ := HSr.out.cells
          have hfin := HSr.out.setL hL2
          have Hfn := hid hfin
          have HEk := hid (Kept2.of_ext (d := y) (m := y) HE.out)
          clear hfin hL2
          generalize (out).length = ln at *
          go_wp2
          go_end0
          exact ⟨rfl, by rw [He.out]; exact Hfn.out.1, HEk.out.trans Hfn.out.2⟩
        · have hz := hkc.out
          rw [hkp] at hz
          have He := hid (show setF d key v D = out ++ [(key, v)] by rw [Hend.out, hkp]; rfl)
          have Hbox := hid (show ∃ cs, Rows REnt ((wr).alloc (.cells #[.string (str key), .int .i64 v] 150)) (fun _ => False) [(key, v)] cs ∧ RV ((wr).alloc (.cells #[.string (str key), .int .i64 v] 150)) (some ⟨(wr).heap.size, 0, none⟩) cs from
            ⟨_, Rows.single (field_mk (f := (key, v)) Hks.out), rv_cells wr [.string (str key), .int .i64 v] _⟩)
          have HAb := hid (HO.out.ext (ext_alloc wr (.cells #[.string (str key), .int .i64 v] 150)) fun _ h => h.elim)
          have HBb := hid (HE.out.alloc HE.out.size (.cells #[.string (str key), .int .i64 v] 150))
          have hszb := HE.out.size
          clear hkp
          have hfl2 := Hfl.out
          by_cases hv0 : v = 0
          · have h3 : d.kind = 3 := Classical.byContradiction fun h => by
              rw [hv0, decide_eq_false h] at hz; cases hz
            subst hv0
            rw [h3] at c0
            clear hz h3
            go_wp2_with (at_builtin; refine wpList_appK (w0 := w) (R := REnt) (xs := out) (base := w.heap.size) entinfo rfl (.tmp 83) (.tmp 87) rfl rfl HAb (fun _ h => h.elim) HBb (by simp; omega) (some ⟨wr.heap.size, 0, none⟩) 1 1 [(key, 0)] rfl rfl Hbox (by omega) (by omega) ?_; intro v2 W2 HA2 HB2 _; have HSr := hid (HS.out.ext HB2.out); clear c0 c3; have c3 := cell_below HB2.out C3.out; have fz := HSr.out.cells; obtain ⟨_, _, _, _, -, -, -, -, -, -, fz⟩ := fz; obtain ⟨A2, c2, hA2, hL2⟩ := ownK_out HA2.out (fun _ h => h.elim) hSlt; subst hA2)
            have Hfn := hid (HSr.out.setL hL2)
            have hln2 : (out ++ [(key, 0)]).length = out.length + 1 := by rw [List.length_append]; rfl
            rw [hln2] at Hfn
            have HEk := hid (Kept2.of_ext (d := y) (m := y) HB2.out)
            go_end0
            exact ⟨rfl, by rw [He.out]; exact Hfn.out.1, HEk.out.trans Hfn.out.2⟩
          · have hvb : (v != 0) = true := by simpa using hv0
            have hvb2 : (v == 0) = false := by simpa using hv0
            clear hz
            go_wp2_with (at_builtin; refine wpList_appK (w0 := w) (R := REnt) (xs := out) (base := w.heap.size) entinfo rfl (.tmp 83) (.tmp 87) rfl rfl HAb (fun _ h => h.elim) HBb (by simp; omega) (some ⟨wr.heap.size, 0, none⟩) 1 1 [(key, v)] rfl rfl Hbox (by omega) (by omega) ?_; intro v2 W2 HA2 HB2 _; have HSr := hid (HS.out.ext HB2.out); clear c0 c3; have c3 := cell_below HB2.out C3.out; have fz := HSr.out.cells; obtain ⟨_, _, _, _, -, -, -, -, -, -, fz⟩ := fz; obtain ⟨A2, c2, hA2, hL2⟩ := ownK_out HA2.out (fun _ h => h.elim) hSlt; subst hA2)
            have Hfn := hid (HSr.out.setL hL2)
            have hln2 : (out ++ [(key, v)]).length = out.length + 1 := by rw [List.length_append]; rfl
            rw [hln2] at Hfn
            have HEk := hid (Kept2.of_ext (d := y) (m := y) HB2.out)
            go_end0
            exact ⟨rfl, by rw [He.out]; exact Hfn.out.1, HEk.out.trans Hfn.out.2⟩
      · have He := hid (show setF d key v D = out by rw [Hend.out]; rfl)
        obtain ⟨A2, c2, rfl, hL2⟩ := ownK_out HO.out (fun _ h => h.elim) hSlt
        obtain ⟨_, _, _, _, -, -, -, -, -, -, fz⟩ := HSr.out.cells
        have hfin := HSr.out.setL hL2
        have Hfn := hid hfin
        have HEk := hid (Kept2.of_ext (d := y) (m := y) HE.out)
        clear hfin hL2
        generalize (out).length = ln at *
        go_wp2
        go_end0
        exact ⟨rfl, by rw [He.out]; exact Hfn.out.1, HEk.out.trans Hfn.out.2⟩
end Go.Proofs.YtakebdeldndaaaaGreatDoor

/- The reference's Step. -/
namespace Go.Proofs.YtakebdeldndaaaaGreatDoor
open Go Go.RowKit
set_option linter.unusedSimpArgs false
set_option linter.unusedVariables false

theorem up_insI {x : List UInt8 × Int} : ∀ {D : Ents}, UpI D → (∀ p ∈ D, p.1 ≠ x.1) → UpI (insI x D)
  | [], _, _ => List.pairwise_singleton _ _
  | y :: r, h, hne => by
    obtain ⟨h1, h2⟩ := List.pairwise_cons.1 h
    unfold insI
    cases hb : bytesBefore x.1 y.1
    · rw [if_neg (by decide)]
      refine List.pairwise_cons.2 ⟨fun z hz => ?_, up_insI h2 fun p hp => hne p (List.mem_cons_of_mem _ hp)⟩
      rcases mem_insI _ _ _ hz with e | hz
      · subst e
        rcases tb_total y.1 z.1 (hne y (by simp)) with h | h
        · exact h
        · rw [h] at hb; cases hb
      · exact h1 z hz
    · rw [if_pos rfl]
      refine List.pairwise_cons.2 ⟨fun z hz => ?_, h⟩
      rcases List.mem_cons.1 hz with rfl | hz
      · exact hb
      · exact tb_trans hb (h1 z hz)
theorem up_setF {d : DefV} {k : Str} {n : Int} {D : Ents} (h : UpI D) : UpI (setF d k n D) := by
  unfold setF putI
  have hd : UpI (delI k D) := List.Pairwise.filter _ h
  split
  · exact hd
  · exact up_insI hd fun p hp => by
      have := (List.mem_filter.1 hp).2
      simpa using this
theorem set_same {d : DefV} {k : Str} {D : Ents} (hu : UpI D) (h3 : d.kind ≠ 3) (hz : ∀ p ∈ D, p.2 ≠ 0) : setF d k (atI D k) D = D := by
  refine ents_ext (up_setF hu) hu (fun p hp => ?_) hz fun k' => ?_
  · rcases mem_set0 hp with ⟨rfl, h⟩ | hp
    · exact h.elim id fun h => absurd h h3
    · exact hz p hp
  · rw [atI_setF]
    split
    · rename_i e; rw [e]
    · rfl
structure OkR (d : DefV) (D : Ents) : Prop where
  up : UpI D
  nz : d.kind ≠ 3 → ∀ p ∈ D, p.2 ≠ 0
  fit : d.kind = 2 → fitsN (atI D []) = true
theorem sum_none {d : DefV} {e : EvV} {D : Ents} (h : OkR d D) (h2 : d.kind = 2) (hv : (valF e.fields d.field).isSome = false) : sumF d e D = (0, D) := by
  have hx : valF e.fields d.field = none := by cases hx : valF e.fields d.field with | none => rfl | some v => rw [hx] at hv; cases hv
  unfold sumF
  rw [hx]
  simp only [Option.getD_none, Int.add_zero, ne_eq, not_true_eq_false, and_false, if_false]
  rw [set_same h.up (by rw [h2]; decide) (h.nz (by rw [h2]; decide))]
theorem sum_over {d : DefV} {e : EvV} {D : Ents} (h : OkR d D) (h2 : d.kind = 2) (hf : fitsN (atI D [] + (valF e.fields d.field).getD 0) = false) : sumF d e D = (4, D) := by
  unfold sumF
  rw [if_pos ⟨hf, fun h0 => by rw [h0, Int.add_zero, h.fit h2] at hf; cases hf⟩]
theorem sum_fits {d : DefV} {e : EvV} {D : Ents} (hf : fitsN (atI D [] + (valF e.fields d.field).getD 0) = true) : sumF d e D = (0, setF d [] (atI D [] + (valF e.fields d.field).getD 0) D) := by
  unfold sumF
  rw [if_neg fun h => by rw [hf] at h; cases h.1]
theorem up_members {d : DefV} {st : Str} : ∀ (ts : List Str) {D : Ents}, UpI D → UpI (membersF d st ts D)
  | [], D, h => h
  | t :: ts, D, h => up_members ts (up_setF h)
theorem RefSt.sIn {w : World} {S : Nat → Prop} {y : Nat} {d : DefV} {D : Ents} (h : RefSt w S y d D) : S y := h.yIn
set_option maxRecDepth 100000 in
set_option maxHeartbeats 8000000 in
theorem refStep_at {w : World} {S : Nat → Prop} {y : Nat} {df : DefV} {D : Ents} (h : RefSt w S y df D) {A B : Option Addr} {n c k d : Nat} {e : EvV} {p vr : Int} (hev : EvS w S A n c B k d e) (hsm : SmallE e) (hD : D.length + 1000 < 1000000) (hf : FitB 2305843009213693952 D) (hok : OkR df D) (hkd : 1 ≤ df.kind ∧ df.kind ≤ 4) (hSlt : ∀ k, S k → k < w.heap.size) :
    Calls Tryz.prog 108 #[.pointer (some ⟨y, 0, none⟩), recVal p vr A n c B k d e] w fun x w' => x = .returned (.int .i64 (StepF df e D).1) ∧ RefSt w' S y df (StepF df e D).2 ∧ Kept2 y y w w' := by
  unfold recVal
  have HE0 := hid (ext_alloc w (.cells #[.int .i64 p, .int .i64 vr, .string (str e.st), .string (str e.ty), .slice A n c, .slice B k d] 116))
  have Hbx := hid (show (w.alloc (.cells #[.int .i64 p, .int .i64 vr, .string (str e.st), .string (str e.ty), .slice A n c, .slice B k d] 116)).heap[w.heap.size]? = some (.cells #[.int .i64 p, .int .i64 vr, .string (str e.st), .string (str e.ty), .slice A n c, .slice B k d] 116) from heap_alloc_last _ _)
  have HSt := hid (h.ext HE0.out)
  have HEv := hid (hev.ext HE0.out)
  have Hslt := hid (show ∀ W, Ext w W → ∀ k, S k → k < W.heap.size from fun W hE k hk => Nat.lt_of_lt_of_le (hSlt k hk) hE.size)
  have Hfit := hid hf
  have Hok := hid hok
  have Hfx := hid (atI_fit hf (by decide) [])
  have Hlt := hid h.lt
  clear h hev hf hok hSlt
  go_enter Tryz.func108, Tryz.ntmps108
  go_wp2_with fail
  obtain ⟨Aq, cq, Bq, bq, y0, y1, y2, y3, hq, -, -⟩ := HSt.out.cells
  have Hy := hid (And.intro y0 (And.intro y1 y2)); have Hq := hid hq
  clear y0 y1 y2 y3 hq
  generalize hw0 : w.alloc (.cells #[.int .i64 p, .int .i64 vr, .string (str e.st), .string (str e.ty), .slice A n c, .slice B k d] 116) = w0 at *
  generalize hqn : df.q.length = nq at Hy Hq
  clear hqn hw0
  have Hcells := hid (show ∀ W, Ext w0 W → W.cell? ⟨w.heap.size, 2, none⟩ = some (.string (str e.st)) ∧ W.cell? ⟨w.heap.size, 3, none⟩ = some (.string (str e.ty)) ∧ W.cell? ⟨w.heap.size, 4, none⟩ = some (.slice A n c) ∧ W.cell? ⟨w.heap.size, 5, none⟩ = some (.slice B k d) from fun W hE => by
    refine ⟨?_, ?_, ?_, ?_⟩ <;> · refine cell_below hE ?_; rw [cell_of_row _ _ _ _ _ _ Hbx.out]; rfl)
  apply wp_drawn [isV _, isV _, isV _, isV _, isV _, isV _, isV _, isV (.bool (matchQ df.q e)), isV (.bool (matchQ df.q e))] (by kernel_rfl)
  · kernel_rfl
  · refine ⟨?q1s0, ?q1s1, ?q1s2, ?q1s3, ?q1s4, ?q1s5, ?q1s6, ?q1s7, ?q1s8, trivial⟩
    case q1s0 =>
      intro v W hE hd; simp only [Region.wanted, ↓reduceIte]; (try simp [deps, waitsOn, Region.binds, knowing, isV, ownsV, anyV] at hd); simp only [putAll, List.take_succ_cons, List.take_zero, List.drop_succ_cons, List.drop_zero, Act.put, List.setIfInBounds_toArray, List.set_cons_zero, List.set_cons_succ, Nat.zero_add, Nat.reduceAdd]; go_simp; exact ⟨Below.refl _ _, rfl⟩
    case q1s1 =>
      intro v W hE hd; simp only [Region.wanted, ↓reduceIte]; (try simp [deps, waitsOn, Region.binds, knowing, isV, ownsV, anyV] at hd); simp only [putAll, List.take_succ_cons, List.take_zero, List.drop_succ_cons, List.drop_zero, Act.put, List.setIfInBounds_toArray, List.set_cons_zero, List.set_cons_succ, Nat.zero_add, Nat.reduceAdd]; go_simp; exact ⟨Below.refl _ _, rfl⟩
    case q1s2 =>
      intro v W hE hd; simp only [Region.wanted, ↓reduceIte]; (try simp [deps, waitsOn, Region.binds, knowing, isV, ownsV, anyV] at hd); simp only [putAll, List.take_succ_cons, List.take_zero, List.drop_succ_cons, List.drop_zero, Act.put, List.setIfInBounds_toArray, List.set_cons_zero, List.set_cons_succ, Nat.zero_add, Nat.reduceAdd]; go_simp; exact ⟨Below.refl _ _, rfl⟩
    case q1s3 =>
      intro v W hE hd; simp only [Region.wanted, ↓reduceIte]; (try simp [deps, waitsOn, Region.binds, knowing, isV, ownsV, anyV] at hd); simp only [putAll, List.take_succ_cons, List.take_zero, List.drop_succ_cons, List.drop_zero, Act.put, List.setIfInBounds_toArray, List.set_cons_zero, List.set_cons_succ, Nat.zero_add, Nat.reduceAdd]; go_simp; exact ⟨Below.refl _ _, rfl⟩
    case q1s4 =>
      intro v W hE hd; simp only [Region.wanted, ↓reduceIte]; (try simp [deps, waitsOn, Region.binds, knowing, isV, ownsV, anyV] at hd); simp only [putAll, List.take_succ_cons, List.take_zero, List.drop_succ_cons, List.drop_zero, Act.put, List.setIfInBounds_toArray, List.set_cons_zero, List.set_cons_succ, Nat.zero_add, Nat.reduceAdd]
      have e1 := cell_below hE Hy.out.2.2
      go_simp
      exact ⟨Below.refl _ _, rfl⟩
    case q1s5 =>
      intro v W hE hd; simp only [Region.wanted, ↓reduceIte]; (try simp [deps, waitsOn, Region.binds, knowing, isV, ownsV, anyV] at hd); simp only [putAll, List.take_succ_cons, List.take_zero, List.drop_succ_cons, List.drop_zero, Act.put, List.setIfInBounds_toArray, List.set_cons_zero, List.set_cons_succ, Nat.zero_add, Nat.reduceAdd]; go_simp; exact ⟨Below.refl _ _, rfl⟩
    case q1s6 =>
      intro v W hE hd; simp only [Region.wanted, ↓reduceIte]; (try simp [deps, waitsOn, Region.binds, knowing, isV, ownsV, anyV] at hd); simp only [putAll, List.take_succ_cons, List.take_zero, List.drop_succ_cons, List.drop_zero, Act.put, List.setIfInBounds_toArray, List.set_cons_zero, List.set_cons_succ, Nat.zero_add, Nat.reduceAdd]
      obtain ⟨f0, f1, f2, f3⟩ := Hcells.out W hE
      go_simp
      exact ⟨Below.refl _ _, rfl⟩
    case q1s7 =>
      intro v W hE hd; simp only [Region.wanted, ↓reduceIte]; (try simp [deps, waitsOn, Region.binds, knowing, isV, ownsV, anyV] at hd); simp only [putAll, List.take_succ_cons, List.take_zero, List.drop_succ_cons, List.drop_zero, Act.put, List.setIfInBounds_toArray, List.set_cons_zero, List.set_cons_succ, Nat.zero_add, Nat.reduceAdd]
      go_simp
      have hcc := refMatch_at (slR_out (slR_more Hq.out hE (fun _ hk => .inl hk))) (HEv.out.ext hE).is
      unfold evVal at hcc
      refine hcc.mono ?_
      rintro x w' ⟨rfl, hE2⟩
      have HE2 := hid hE2
      clear hE2 hcc
      go_simp
      exact ⟨HE2.out, rfl⟩
    case q1s8 =>
      intro v W hE hd; simp only [Region.wanted, ↓reduceIte]; (try simp [deps, waitsOn, Region.binds, knowing, isV, ownsV, anyV] at hd); simp only [putAll, List.take_succ_cons, List.take_zero, List.drop_succ_cons, List.drop_zero, Act.put, List.setIfInBounds_toArray, List.set_cons_zero, List.set_cons_succ, Nat.zero_add, Nat.reduceAdd]
      go_simp
      exact ⟨Below.refl _ _, rfl⟩
  · rintro v W9 hE ⟨-, -, -, -, -, -, -, -, e8, -⟩
    have e8 := (show v 8 = _ from e8)
    simp only [putAll, List.take_succ_cons, List.take_zero, List.drop_succ_cons, List.drop_zero, Act.put, List.setIfInBounds_toArray, List.set_cons_zero, List.set_cons_succ, Nat.zero_add, Nat.reduceAdd]
    rw [e8]
    have HE9 := hid hE
    clear e8 hE
    cases hm : matchQ df.q e
    · have hr := hid (show StepF df e D = (0, D) by unfold StepF; rw [if_neg (by rw [hm]; decide)])
      go_wp2
      go_ret
      exact ⟨by rw [hr.out]; rfl, by rw [hr.out]; exact HSt.out.ext HE9.out, Kept2.of_ext (Ext.trans' HE0.out HE9.out)⟩
    have hr0 := hid (show StepF df e D = stepF df e D by unfold StepF; rw [if_pos hm])
    clear hm
    have Hvs := hid (valF_small hsm df.field)
    have Hnone := hid (fun h2 hv => sum_none (e := e) Hok.out h2 hv)
    have Hover := hid (fun h2 hv => sum_over (e := e) Hok.out h2 hv)
    have Hfits := hid (sum_fits (d := df) (e := e) (D := D))
    have Hlat := hid (show latestF df e D = if (valF e.fields df.field).isSome = true then setF df e.st ((valF e.fields df.field).getD 0) D else D by
      unfold latestF; cases valF e.fields df.field <;> rfl)
    have Hvc := hid (fun W (hE : Ext w0 W) => refValue_at ((HEv.out.ext hE).is) df.field)
    unfold evVal at Hvc
    generalize (valF e.fields df.field).isSome = vb at *
    generalize (valF e.fields df.field).getD 0 = vl at *
    go_wp2_with fail
    apply wp_drawn [isV _, isV _, isV _, isV _, isV _, isV _, isV _, isV (.tuple #[.int .i64 vl, .bool vb]), isV (.tuple #[.int .i64 vl, .bool vb]), isV (.int .i64 vl), isV (.bool vb), isV (.int .i64 vl), isV (.bool vb)] (by kernel_rfl)
    · kernel_rfl
    · refine ⟨?q4s0, ?q4s1, ?q4s2, ?q4s3, ?q4s4, ?q4s5, ?q4s6, ?q4s7, ?q4s8, ?q4s9, ?q4s10, ?q4s11, ?q4s12, trivial⟩
      case q4s0 =>
        intro v W hE hd; simp only [Region.wanted, ↓reduceIte]; (try simp [deps, waitsOn, Region.binds, knowing, isV, ownsV, anyV] at hd); simp only [putAll, List.take_succ_cons, List.take_zero, List.drop_succ_cons, List.drop_zero, Act.put, List.setIfInBounds_toArray, List.set_cons_zero, List.set_cons_succ, Nat.zero_add, Nat.reduceAdd]; go_simp; exact ⟨Below.refl _ _, rfl⟩
      case q4s1 =>
        intro v W hE hd; simp only [Region.wanted, ↓reduceIte]; (try simp [deps, waitsOn, Region.binds, knowing, isV, ownsV, anyV] at hd); simp only [putAll, List.take_succ_cons, List.take_zero, List.drop_succ_cons, List.drop_zero, Act.put, List.setIfInBounds_toArray, List.set_cons_zero, List.set_cons_succ, Nat.zero_add, Nat.reduceAdd]
        obtain ⟨f0, f1, f2, f3⟩ := Hcells.out W (HE9.out.trans' hE)
        go_simp
        exact ⟨Below.refl _ _, rfl⟩
      case q4s2 =>
        intro v W hE hd; simp only [Region.wanted, ↓reduceIte]; (try simp [deps, waitsOn, Region.binds, knowing, isV, ownsV, anyV] at hd); simp only [putAll, List.take_succ_cons, List.take_zero, List.drop_succ_cons, List.drop_zero, Act.put, List.setIfInBounds_toArray, List.set_cons_zero, List.set_cons_succ, Nat.zero_add, Nat.reduceAdd]; go_simp; exact ⟨Below.refl _ _, rfl⟩
      case q4s3 =>
        intro v W hE hd; simp only [Region.wanted, ↓reduceIte]; (try simp [deps, waitsOn, Region.binds, knowing, isV, ownsV, anyV] at hd); simp only [putAll, List.take_succ_cons, List.take_zero, List.drop_succ_cons, List.drop_zero, Act.put, List.setIfInBounds_toArray, List.set_cons_zero, List.set_cons_succ, Nat.zero_add, Nat.reduceAdd]; go_simp; exact ⟨Below.refl _ _, rfl⟩
      case q4s4 =>
        intro v W hE hd; simp only [Region.wanted, ↓reduceIte]; (try simp [deps, waitsOn, Region.binds, knowing, isV, ownsV, anyV] at hd); simp only [putAll, List.take_succ_cons, List.take_zero, List.drop_succ_cons, List.drop_zero, Act.put, List.setIfInBounds_toArray, List.set_cons_zero, List.set_cons_succ, Nat.zero_add, Nat.reduceAdd]; go_simp; exact ⟨Below.refl _ _, rfl⟩
      case q4s5 =>
        intro v W hE hd; simp only [Region.wanted, ↓reduceIte]; (try simp [deps, waitsOn, Region.binds, knowing, isV, ownsV, anyV] at hd); simp only [putAll, List.take_succ_cons, List.take_zero, List.drop_succ_cons, List.drop_zero, Act.put, List.setIfInBounds_toArray, List.set_cons_zero, List.set_cons_succ, Nat.zero_add, Nat.reduceAdd]; go_simp; exact ⟨Below.refl _ _, rfl⟩
      case q4s6 =>
        intro v W hE hd; simp only [Region.wanted, ↓reduceIte]; (try simp [deps, waitsOn, Region.binds, knowing, isV, ownsV, anyV] at hd); simp only [putAll, List.take_succ_cons, List.take_zero, List.drop_succ_cons, List.drop_zero, Act.put, List.setIfInBounds_toArray, List.set_cons_zero, List.set_cons_succ, Nat.zero_add, Nat.reduceAdd]
        have e1 := cell_below (HE9.out.trans' hE) Hy.out.2.1
        go_simp
        exact ⟨Below.refl _ _, rfl⟩
      case q4s7 =>
        intro v W hE hd; simp only [Region.wanted, ↓reduceIte]; (try simp [deps, waitsOn, Region.binds, knowing, isV, ownsV, anyV] at hd); simp only [putAll, List.take_succ_cons, List.take_zero, List.drop_succ_cons, List.drop_zero, Act.put, List.setIfInBounds_toArray, List.set_cons_zero, List.set_cons_succ, Nat.zero_add, Nat.reduceAdd]
        go_simp
        have hcc := Hvc.out W (HE9.out.trans' hE)
        refine hcc.mono ?_
        rintro x w' ⟨rfl, hE2⟩
        have HE2 := hid hE2
        clear hE2 hcc
        go_simp
        exact ⟨HE2.out, rfl⟩
      case q4s8 =>
        intro v W hE hd; simp only [Region.wanted, ↓reduceIte]; (try simp [deps, waitsOn, Region.binds, knowing, isV, ownsV, anyV] at hd); simp only [putAll, List.take_succ_cons, List.take_zero, List.drop_succ_cons, List.drop_zero, Act.put, List.setIfInBounds_toArray, List.set_cons_zero, List.set_cons_succ, Nat.zero_add, Nat.reduceAdd]
        go_simp
        exact ⟨Below.refl _ _, rfl⟩
      case q4s9 =>
        intro v W hE hd; simp only [Region.wanted, ↓reduceIte]; (try simp [deps, waitsOn, Region.binds, knowing, isV, ownsV, anyV] at hd); simp only [putAll, List.take_succ_cons, List.take_zero, List.drop_succ_cons, List.drop_zero, Act.put, List.setIfInBounds_toArray, List.set_cons_zero, List.set_cons_succ, Nat.zero_add, Nat.reduceAdd]
        go_simp
        exact ⟨Below.refl _ _, rfl⟩
      case q4s10 =>
        intro v W hE hd; simp only [Region.wanted, ↓reduceIte]; (try simp [deps, waitsOn, Region.binds, knowing, isV, ownsV, anyV] at hd); simp only [putAll, List.take_succ_cons, List.take_zero, List.drop_succ_cons, List.drop_zero, Act.put, List.setIfInBounds_toArray, List.set_cons_zero, List.set_cons_succ, Nat.zero_add, Nat.reduceAdd]
        go_simp
        exact ⟨Below.refl _ _, rfl⟩
      case q4s11 =>
        intro v W hE hd; simp only [Region.wanted, ↓reduceIte]; (try simp [deps, waitsOn, Region.binds, knowing, isV, ownsV, anyV] at hd); simp only [putAll, List.take_succ_cons, List.take_zero, List.drop_succ_cons, List.drop_zero, Act.put, List.setIfInBounds_toArray, List.set_cons_zero, List.set_cons_succ, Nat.zero_add, Nat.reduceAdd]
        go_simp
        exact ⟨Below.refl _ _, rfl⟩
      case q4s12 =>
        intro v W hE hd; simp only [Region.wanted, ↓reduceIte]; (try simp [deps, waitsOn, Region.binds, knowing, isV, ownsV, anyV] at hd); simp only [putAll, List.take_succ_cons, List.take_zero, List.drop_succ_cons, List.drop_zero, Act.put, List.setIfInBounds_toArray, List.set_cons_zero, List.set_cons_succ, Nat.zero_add, Nat.reduceAdd]
        go_simp
        exact ⟨Below.refl _ _, rfl⟩
    · rintro v W10 hE ⟨-, -, -, -, -, -, -, -, -, -, -, e11, e12, -⟩
      have e11 := (show v 11 = _ from e11)
      have e12 := (show v 12 = _ from e12)
      simp only [putAll, List.take_succ_cons, List.take_zero, List.drop_succ_cons, List.drop_zero, Act.put, List.setIfInBounds_toArray, List.set_cons_zero, List.set_cons_succ, Nat.zero_add, Nat.reduceAdd]
      rw [e11, e12]
      have HEt := hid (HE9.out.trans' hE)
      have HE10 := hid (HE0.out.trans' HEt.out)
      have HR := hid (HSt.out.ext HEt.out)
      have Hsl := hid (Hslt.out _ HE10.out)
      clear e11 e12 hE Hvc Hq
      have y0 := cell_below HEt.out Hy.out.1
      have hxb := Hfx.out
      have hvb := Hvs.out
      by_cases h1 : df.kind = 1
      · rw [h1] at y0
        have hr := hid (show StepF df e D = (0, setF df [] (atI D [] + 1) D) by rw [hr0.out]; unfold stepF; rw [if_neg (by rw [h1]; decide), if_neg (by rw [h1]; decide), if_neg (by rw [h1]; decide)]; rfl)
        clear h1
        go_wp2_with fail
        refine (refGet_at HR.out []).mono ?_
        rintro e' w' ⟨rfl, rfl⟩
        have hcc := refSet_at HR.out [] (atI D [] + 1) (Nat.zero_le _) Hok.out.up (by omega) Hsl.out
        have hst : str [] = { data := #[] } := rfl
        rw [hst] at hcc
        generalize atI D [] = x at *
        have hw : IntKind.i64.wrap (x + 1) = x + 1 := by rw [IntKind.wrap_i64]; omega
        go_wp2_with fail
        refine hcc.mono ?_
        clear hcc
        rintro e' w' ⟨rfl, hS, hK⟩
        have HS := hid hS; have HK := hid ((Kept2.of_ext (d := y) (m := y) HE10.out).trans hK)
        clear hS hK
        go_wp2
        go_ret
        exact ⟨by rw [hr.out]; rfl, by rw [hr.out]; exact HS.out, HK.out⟩
      have k1 : (df.kind == 1) = false := beq_eq_false_iff_ne.2 h1
      by_cases h2 : df.kind = 2
      · rw [h2] at y0
        have hr0' := hid (show StepF df e D = sumF df e D by rw [hr0.out]; unfold stepF; rw [if_pos h2])
        cases vb
        · have hr := hid (show StepF df e D = (0, D) from hr0'.out.trans (Hnone.out h2 rfl))
          clear h2
          go_wp2
          go_ret
          exact ⟨by rw [hr.out]; rfl, by rw [hr.out]; exact HR.out, Kept2.of_ext HE10.out⟩
        have Hov := hid (Hover.out h2)
        clear h2
        go_wp2_with fail
        refine (refGet_at HR.out []).mono ?_
        rintro e' w' ⟨rfl, rfl⟩
        have hst : str [] = { data := #[] } := rfl
        obtain ⟨x, hx⟩ : ∃ x, x = atI D [] := ⟨_, rfl⟩
        have Hx := hid hx
        rw [← hx] at Hov hxb Hfits ⊢
        clear hx
        have hw : IntKind.i64.wrap (x + vl) = x + vl := by rw [IntKind.wrap_i64]; omega
        go_wp2_with fail
        refine (refFits_at (x + vl) _).mono ?_
        rintro e' w' ⟨rfl, rfl⟩
        cases hfit : fitsN (x + vl)
        · have hr := hid (show StepF df e D = (4, D) from hr0'.out.trans (Hov.out hfit))
          clear hfit
          go_wp2
          go_ret
          exact ⟨by rw [hr.out]; rfl, by rw [hr.out]; exact HR.out, Kept2.of_ext HE10.out⟩
        · have hr := hid (show StepF df e D = (0, setF df [] (x + vl) D) from hr0'.out.trans (Hfits.out hfit))
          clear hfit
          go_wp2_with fail
          refine (refGet_at HR.out []).mono ?_
          rintro e' w' ⟨rfl, rfl⟩
          rw [← Hx.out]
          have hcc := refSet_at HR.out [] (x + vl) (Nat.zero_le _) Hok.out.up (by omega) Hsl.out
          rw [hst] at hcc
          go_wp2_with fail
          refine hcc.mono ?_
          clear hcc
          rintro e' w' ⟨rfl, hS, hK⟩
          have HS := hid hS; have HK := hid ((Kept2.of_ext (d := y) (m := y) HE10.out).trans hK)
          clear hS hK
          go_wp2
          go_ret
          exact ⟨by rw [hr.out]; rfl, by rw [hr.out]; exact HS.out, HK.out⟩
      have k2 : (df.kind == 2) = false := beq_eq_false_iff_ne.2 h2
      by_cases h3 : df.kind = 3
      · rw [h3] at y0
        have hr0' := hid (show StepF df e D = (0, latestF df e D) by rw [hr0.out]; unfold stepF; rw [if_neg h2, if_pos h3])
        obtain ⟨f0, -, -, -⟩ := Hcells.out _ HEt.out
        clear h3
        cases vb
        · have hr := hid (show StepF df e D = (0, D) by rw [hr0'.out, Hlat.out]; rfl)
          clear f0
          go_wp2
          go_ret
          exact ⟨by rw [hr.out]; rfl, by rw [hr.out]; exact HR.out, Kept2.of_ext HE10.out⟩
        · have hr := hid (show StepF df e D = (0, setF df e.st vl D) by rw [hr0'.out, Hlat.out]; rfl)
          have hcc := refSet_at HR.out e.st vl HEv.out.st Hok.out.up (by omega) Hsl.out
          go_wp2_with fail
          refine hcc.mono ?_
          clear hcc f0
          rintro e' w' ⟨rfl, hS, hK⟩
          have HS := hid hS; have HK := hid ((Kept2.of_ext (d := y) (m := y) HE10.out).trans hK)
          clear hS hK
          go_wp2
          go_ret
          exact ⟨by rw [hr.out]; rfl, by rw [hr.out]; exact HS.out, HK.out⟩
      have k3 : (df.kind == 3) = false := beq_eq_false_iff_ne.2 h3
      have h4 : df.kind = 4 := by omega
      rw [h4] at y0
      have hr := hid (show StepF df e D = (0, membersF df e.st e.tags D) by rw [hr0.out]; unfold stepF; rw [if_neg h2, if_neg h3, if_pos h4])
      have hn := hid HEv.out.tags.1
      have hnc := HEv.out.tags.2.1
      have hcm := HEv.out.tags.2.2.1
      have HVt := hid (HEv.out.ext HEt.out)
      have HKt := hid (Kept2.of_ext (d := y) (m := y) HE10.out)
      have Hbs := hid (show w.heap.size ≠ y from by have := Hlt.out; omega)
      have Hbt := hid (show W10.heap[w.heap.size]? = some (.cells #[.int .i64 p, .int .i64 vr, .string (str e.st), .string (str e.ty), .slice A n c, .slice B k d] 116) from (HEt.out.block _ (Array.getElem?_eq_some_iff.1 Hbx.out).1).trans Hbx.out)
      clear h1 h2 h3 h4 hxb hvb Hnone Hover Hfits Hlat Hcells
      go_wp2_with fail
      clear y0
      go_loopw [8] (fun i wr => ∃ j : Nat, j ≤ n ∧ i = .int .i64 (j : Int) ∧ Hid (RefSt wr S y df (membersF df e.st (e.tags.take j) D)) ∧ Hid (Kept2 y y w wr) ∧ Hid (EvS wr S A n c B k d e) ∧ Hid (wr.heap[w.heap.size]? = some (.cells #[.int .i64 p, .int .i64 vr, .string (str e.st), .string (str e.ty), .slice A n c, .slice B k d] 116))) (fun i _ => n - (intOf i).toNat)
      case atStart => exact ⟨0, by omega, rfl, HR, HKt, HVt, Hbt⟩
      case round =>
        obtain ⟨j, hj, rfl, HS, HK, HV, HB⟩ := hrel
        have f0 : wr.cell? ⟨w.heap.size, 2, none⟩ = some (.string (str e.st)) := by rw [cell_of_row _ _ _ _ _ _ HB.out]; rfl
        have f2 : wr.cell? ⟨w.heap.size, 4, none⟩ = some (.slice A n c) := by rw [cell_of_row _ _ _ _ _ _ HB.out]; rfl
        have F := hid (And.intro f0 f2)
        by_cases hlt : j < n
        · have hjx : j < e.tags.length := by have := hn.out; omega
          have hlt' : (j : Int) < (n : Int) := by omega
          have hj00 : ¬ ((j : Int) < 0) := by omega
          have hj0 : (0 : Int) ≤ (j : Int) := by omega
          obtain ⟨b, o, rfl, -, g0, -⟩ := txt_at HV.out.tags j hjx
          have G0 := hid g0
          have ht := hsm.tags _ (List.getElem_mem hjx)
          have hstl := hsm.st
          have hnx := hid (show membersF df e.st (e.tags.take (j + 1)) D = countF df (keyF e.tags[j] e.st) (membersF df e.st (e.tags.take j) D) by
            rw [← membersF_snoc, List.take_succ_eq_append_getElem hjx])
          have hlenT : (e.tags.take j).length ≤ 1000 := by have := hsm.many; rw [List.length_take]; omega
          have hlen := length_membersF (d := df) (st := e.st) (e.tags.take j) D
          have hfm := membersF_fit (d := df) (st := e.st) (e.tags.take j) Hfit.out (by decide)
          have hfa := atI_fit hfm (by omega) (keyF e.tags[j] e.st)
          have hkl : (keyF e.tags[j] e.st).length ≤ 2001 := by unfold keyF; simp only [List.length_append, List.length_cons, List.length_nil]; omega
          have hks : Short (keyF e.tags[j] e.st) := by unfold Short; omega
          have hDl : (membersF df e.st (e.tags.take j) D).length < 1000000 := by omega
          have Hsl2 := hid (show ∀ k, S k → k < wr.heap.size from fun k hk => Nat.lt_of_lt_of_le (Hslt.out w (Below.refl _ _) k hk) HK.out.size)
          obtain ⟨ky, hky⟩ : ∃ ky, ky = keyF e.tags[j] e.st := ⟨_, rfl⟩
          have ad1 := fun w => run_string_add (P := Tryz.prog) (w := w) (str e.tags[j]) (str [32]) (by rw [str_size]; omega) (by decide)
          have ad2 := fun w => run_string_add (P := Tryz.prog) (w := w) (str e.tags[j] ++ str [32]) (str e.st) (by rw [← str_append, str_size]; simp; omega) (by rw [str_size]; omega)
          have hke : str e.tags[j] ++ str [32] ++ str e.st = str ky := by rw [hky, ← str_append, ← str_append]; rfl
          rw [hke] at ad2
          have h32 : str [32] = { data := #[32] } := rfl
          rw [h32] at ad1 ad2
          rw [← hky] at hfa hks hnx
          have hcf := hid (show countF df ky (membersF df e.st (e.tags.take j) D) = setF df ky (atI (membersF df e.st (e.tags.take j) D) ky + 1) (membersF df e.st (e.tags.take j) D) from rfl)
          rw [hcf.out] at hnx
          have Had := hid (And.intro ad1 ad2)
          have Hks := hid hks
          have Hup := hid (up_members (d := df) (st := e.st) (e.tags.take j) Hok.out.up)
          have hfb : -4611686018427387904 ≤ atI (membersF df e.st (e.tags.take j) D) ky ∧ atI (membersF df e.st (e.tags.take j) D) ky ≤ 4611686018427387904 := by omega
          clear hfa
          clear ad1 ad2 ht hstl hlenT hlen hfm hkl hks hke hky h32 hcf
          generalize e.tags[j] = tg at *
          go_wp2_with fail
          clear f0 f2 g0
          apply wp_drawn [isV _, isV _, isV _, isV _, isV _, isV _, isV (.string (str tg ++ { data := #[32] })), isV _, isV _, isV _, isV (.string (str ky)), isV (.string (str ky))] (by kernel_rfl)
          · kernel_rfl
          · refine ⟨?q5s0, ?q5s1, ?q5s2, ?q5s3, ?q5s4, ?q5s5, ?q5s6, ?q5s7, ?q5s8, ?q5s9, ?q5s10, ?q5s11, trivial⟩
            case q5s0 =>
              intro v W hE hd; simp only [Region.wanted, ↓reduceIte]; (try simp [deps, waitsOn, Region.binds, knowing, isV, ownsV, anyV] at hd); simp only [putAll, List.take_succ_cons, List.take_zero, List.drop_succ_cons, List.drop_zero, Act.put, List.setIfInBounds_toArray, List.set_cons_zero, List.set_cons_succ, Nat.zero_add, Nat.reduceAdd]; go_simp; exact ⟨Below.refl _ _, rfl⟩
            case q5s1 =>
              intro v W hE hd; simp only [Region.wanted, ↓reduceIte]; (try simp [deps, waitsOn, Region.binds, knowing, isV, ownsV, anyV] at hd); simp only [putAll, List.take_succ_cons, List.take_zero, List.drop_succ_cons, List.drop_zero, Act.put, List.setIfInBounds_toArray, List.set_cons_zero, List.set_cons_succ, Nat.zero_add, Nat.reduceAdd]; go_simp; exact ⟨Below.refl _ _, rfl⟩
            case q5s2 =>
              intro v W hE hd; simp only [Region.wanted, ↓reduceIte]; (try simp [deps, waitsOn, Region.binds, knowing, isV, ownsV, anyV] at hd); simp only [putAll, List.take_succ_cons, List.take_zero, List.drop_succ_cons, List.drop_zero, Act.put, List.setIfInBounds_toArray, List.set_cons_zero, List.set_cons_succ, Nat.zero_add, Nat.reduceAdd]
              have e1 := cell_below hE F.out.2
              go_simp
              exact ⟨Below.refl _ _, rfl⟩
            case q5s3 =>
              intro v W hE hd; simp only [Region.wanted, ↓reduceIte]; (try simp [deps, waitsOn, Region.binds, knowing, isV, ownsV, anyV] at hd); simp only [putAll, List.take_succ_cons, List.take_zero, List.drop_succ_cons, List.drop_zero, Act.put, List.setIfInBounds_toArray, List.set_cons_zero, List.set_cons_succ, Nat.zero_add, Nat.reduceAdd]; go_simp; exact ⟨Below.refl _ _, rfl⟩
            case q5s4 =>
              intro v W hE hd; simp only [Region.wanted, ↓reduceIte]; (try simp [deps, waitsOn, Region.binds, knowing, isV, ownsV, anyV] at hd); simp only [putAll, List.take_succ_cons, List.take_zero, List.drop_succ_cons, List.drop_zero, Act.put, List.setIfInBounds_toArray, List.set_cons_zero, List.set_cons_succ, Nat.zero_add, Nat.reduceAdd]; go_simp; exact ⟨Below.refl _ _, rfl⟩
            case q5s5 =>
              intro v W hE hd; simp only [Region.wanted, ↓reduceIte]; (try simp [deps, waitsOn, Region.binds, knowing, isV, ownsV, anyV] at hd); simp only [putAll, List.take_succ_cons, List.take_zero, List.drop_succ_cons, List.drop_zero, Act.put, List.setIfInBounds_toArray, List.set_cons_zero, List.set_cons_succ, Nat.zero_add, Nat.reduceAdd]
              have e1 := cell_below hE G0.out
              go_simp
              exact ⟨Below.refl _ _, rfl⟩
            case q5s6 =>
              intro v W hE hd; simp only [Region.wanted, ↓reduceIte]; (try simp [deps, waitsOn, Region.binds, knowing, isV, ownsV, anyV] at hd); simp only [putAll, List.take_succ_cons, List.take_zero, List.drop_succ_cons, List.drop_zero, Act.put, List.setIfInBounds_toArray, List.set_cons_zero, List.set_cons_succ, Nat.zero_add, Nat.reduceAdd]
              have ad1 := Had.out.1
              go_simp
              exact ⟨Below.refl _ _, rfl⟩
            case q5s7 =>
              intro v W hE hd; simp only [Region.wanted, ↓reduceIte]; (try simp [deps, waitsOn, Region.binds, knowing, isV, ownsV, anyV] at hd); simp only [putAll, List.take_succ_cons, List.take_zero, List.drop_succ_cons, List.drop_zero, Act.put, List.setIfInBounds_toArray, List.set_cons_zero, List.set_cons_succ, Nat.zero_add, Nat.reduceAdd]; go_simp; exact ⟨Below.refl _ _, rfl⟩
            case q5s8 =>
              intro v W hE hd; simp only [Region.wanted, ↓reduceIte]; (try simp [deps, waitsOn, Region.binds, knowing, isV, ownsV, anyV] at hd); simp only [putAll, List.take_succ_cons, List.take_zero, List.drop_succ_cons, List.drop_zero, Act.put, List.setIfInBounds_toArray, List.set_cons_zero, List.set_cons_succ, Nat.zero_add, Nat.reduceAdd]; go_simp; exact ⟨Below.refl _ _, rfl⟩
            case q5s9 =>
              intro v W hE hd; simp only [Region.wanted, ↓reduceIte]; (try simp [deps, waitsOn, Region.binds, knowing, isV, ownsV, anyV] at hd); simp only [putAll, List.take_succ_cons, List.take_zero, List.drop_succ_cons, List.drop_zero, Act.put, List.setIfInBounds_toArray, List.set_cons_zero, List.set_cons_succ, Nat.zero_add, Nat.reduceAdd]
              have e1 := cell_below hE F.out.1
              go_simp
              exact ⟨Below.refl _ _, rfl⟩
            case q5s10 =>
              intro v W hE hd; simp only [Region.wanted, ↓reduceIte]; (try simp [deps, waitsOn, Region.binds, knowing, isV, ownsV, anyV] at hd); simp only [putAll, List.take_succ_cons, List.take_zero, List.drop_succ_cons, List.drop_zero, Act.put, List.setIfInBounds_toArray, List.set_cons_zero, List.set_cons_succ, Nat.zero_add, Nat.reduceAdd]
              have ad2 := Had.out.2
              go_simp
              exact ⟨Below.refl _ _, rfl⟩
            case q5s11 =>
              intro v W hE hd; simp only [Region.wanted, ↓reduceIte]; (try simp [deps, waitsOn, Region.binds, knowing, isV, ownsV, anyV] at hd); simp only [putAll, List.take_succ_cons, List.take_zero, List.drop_succ_cons, List.drop_zero, Act.put, List.setIfInBounds_toArray, List.set_cons_zero, List.set_cons_succ, Nat.zero_add, Nat.reduceAdd]
              go_simp
              exact ⟨Below.refl _ _, rfl⟩
          · rintro v W11 hE ⟨-, -, -, -, -, -, -, -, -, -, -, e11, -⟩
            have e11 := (show v 11 = _ from e11)
            simp only [putAll, List.take_succ_cons, List.take_zero, List.drop_succ_cons, List.drop_zero, Act.put, List.setIfInBounds_toArray, List.set_cons_zero, List.set_cons_succ, Nat.zero_add, Nat.reduceAdd]
            rw [e11]
            have HS' := hid (HS.out.ext hE)
            have HK' := hid (HK.out.trans (Kept2.of_ext (d := y) (m := y) hE))
            have HV' := hid (HV.out.ext hE)
            have HB' := hid (show W11.heap[w.heap.size]? = some (.cells #[.int .i64 p, .int .i64 vr, .string (str e.st), .string (str e.ty), .slice (some ⟨b, o, none⟩) n c, .slice B k d] 116) from (hE.block _ (Array.getElem?_eq_some_iff.1 HB.out).1).trans HB.out)
            have Hsl3 := hid (show ∀ k, S k → k < W11.heap.size from fun k hk => Nat.lt_of_lt_of_le (Hsl2.out k hk) hE.size)
            clear e11 hE HS HK HV HB Had F G0
            go_wp2_with fail
            refine (refGet_at HS'.out ky).mono ?_
            rintro e' w' ⟨rfl, rfl⟩
            have hcc := refSet_at HS'.out ky (atI (membersF df e.st (e.tags.take j) D) ky + 1) Hks.out Hup.out hDl Hsl3.out
            generalize atI (membersF df e.st (e.tags.take j) D) ky = x at *
            have hw : IntKind.i64.wrap (x + 1) = x + 1 := by rw [IntKind.wrap_i64]; omega
            go_wp2_with fail
            refine hcc.mono ?_
            clear hcc
            rintro e' w' ⟨rfl, hS, hK⟩
            rw [← hnx.out] at hS
            have HS2 := hid hS
            have HK2 := hid (HK'.out.trans hK)
            have HV2 := hid (HV'.out.kept hK HS'.out.yIn HS'.out.yIn)
            have HB2 := hid ((hK.block _ (Array.getElem?_eq_some_iff.1 HB'.out).1 Hbs.out Hbs.out).trans HB'.out)
            clear hS hK
            go_wp2_with fail
            go_roundw
            case rel => exact ⟨j + 1, by omega, by go_num, HS2, HK2, HV2, HB2⟩
            case measure => simp [intOf]; omega
        · obtain rfl : j = n := by omega
          have hlt' : ¬ ((j : Int) < (j : Int)) := by omega
          have hall := hid (show e.tags.take j = e.tags from List.take_of_length_le (by have := hn.out; omega))
          go_wp2
          go_ret
          exact ⟨by rw [hr.out]; rfl, by rw [hr.out]; have := HS.out; rw [hall.out] at this; exact this, HK.out⟩
end Go.Proofs.YtakebdeldndaaaaGreatDoor

