/- Several texts of this claim's, one behind the other. -/
import Derived.Test.YtakebdeldndaaaaGreatDoorQu
import Derived.Test.YtakebdeldndaaaaGreatDoorFoz
import Derived.Test.YtakebdeldndaaaaGreatDoorFoy
import Derived.Deep.DeepCutAuto
import Derived.WalkLawsBesides
/- Which queries may be, as the document says. -/
namespace Go.Proofs.YtakebdeldndaaaaGreatDoor
open Go Go.RowKit
set_option linter.unusedSimpArgs false
set_option linter.unusedVariables false
theorem any_none {α : Type} {p : α → Bool} {l : List α} (h : ∀ j (h : j < l.length), p l[j] = false) : l.any p = false := by
 rw [List.any_eq_false]
 intro x hx
 obtain ⟨j, hj, rfl⟩ := List.getElem_of_mem hx
 rw [h j hj]; decide
theorem any_next {α : Type} {p : α → Bool} {l : List α} {k : Nat} (h : k < l.length) : (l.take (k + 1)).any p = ((l.take k).any p || p l[k]) := by
 rw [List.take_succ_eq_append_getElem h, List.any_append]; simp
set_option maxRecDepth 100000 in
set_option maxHeartbeats 4000000 in
theorem refQMay_at {w : World} {A : Option Addr} {n c : Nat} {q : List ClV} (h : SlR RCl w (· < w.heap.size) A n c q) :
  Calls Tryz.prog 129 #[.agg #[.slice A n c]] w fun e w' => e = .returned (.int .i64 (mayQ q)) ∧ Ext w w' := by
 have Hn := hid h.1
 have hnc := h.2.1
 have hcm := h.2.2.1
 have H := hid h
 have HE0 := hid (ext_alloc w (.cells #[.slice A n c] 70))
 have b0 : (w.alloc (.cells #[.slice A n c] 70)).cell? ⟨w.heap.size, 0, none⟩ = some (.slice A n c) := by rw [cell_of_row _ _ _ _ _ _ (heap_alloc_last w _)]; rfl
 clear h
 go_enter Tryz.func129, Tryz.ntmps129
 by_cases h4 : 4 < n
 ·have g4 : (4 : Int) < (n : Int) := by omega
  have hr := hid (show mayQ q = 3 by unfold mayQ; rw [← Hn.out, decide_eq_true h4]; rfl)
  clear h4
  go_wp2
  go_ret
  exact ⟨by rw [hr.out]; rfl, HE0.out⟩
 have g4 : ¬ ((4 : Int) < (n : Int)) := by omega
 have Hq := hid (show mayQ q = if q.any bigC = true then 3 else if q.any noneC = true then 5 else if q.any riseC = true then 1 else 0 by unfold mayQ; rw [← Hn.out, decide_eq_false h4, Bool.false_or])
 have hn4 : n ≤ 4 := by omega
 clear h4
 go_wp2_with fail
 have H1 := hid (H.out.grow HE0.out)
 generalize w.alloc (.cells #[.slice A n c] 70) = w1 at *
 generalize w.heap.size = bq at *
 have B0 := hid b0
 clear H g4
 go_loopw [3] (fun i wr => wr = w1 ∧ ∃ k : Nat, k ≤ n ∧ i = .int .i64 (k : Int) ∧ Hid (∀ j (hj : j < k) (h : j < q.length), bigC q[j] = false)) (fun i _ => n - (intOf i).toNat)
 case atStart => exact ⟨rfl, 0, by omega, rfl, fun j hj => by omega⟩
 case round =>
  obtain ⟨rfl, k, hk, rfl, HN⟩ := hrel
  by_cases hlt : k < n
  ·have hkx : k < q.length := by have := Hn.out; omega
   have hlt' : (k : Int) < (n : Int) := by omega
   have hk00 : ¬ ((k : Int) < 0) := by omega
   have hk0 : (0 : Int) ≤ (k : Int) := by omega
   obtain ⟨bb, o, T, ta, U, ua, rfl, -, f0, f1, hT, hU⟩ := cl_at H1.out k hkx
   have Hb := hid (show bigC q[k] = (decide (4 < q[k].tags.length) || decide (4 < q[k].types.length)) from rfl)
   have Hm := hid (show bigC q[k] = true → q.any bigC = true from fun hp => List.any_eq_true.2 ⟨_, List.getElem_mem hkx, hp⟩)
   have Hk := hid (prefix_next (p := bigC) HN.out hkx)
   clear hT hU
   generalize bigC q[k] = bc at Hb Hm Hk
   generalize q[k].tags.length = tl at *
   generalize q[k].types.length = ul at *
   by_cases h1 : 4 < tl
   ·have g1 : (4 : Int) < (tl : Int) := by omega
    have hr := hid (show mayQ q = 3 by rw [Hq.out, if_pos (Hm.out (by rw [Hb.out, decide_eq_true h1]; rfl))])
    clear h1
    go_wp2
    go_ret
    exact ⟨by rw [hr.out]; rfl, HE0.out⟩
   have g1 : ¬ ((4 : Int) < (tl : Int)) := by omega
   by_cases h2 : 4 < ul
   ·have g2 : (4 : Int) < (ul : Int) := by omega
    have hr := hid (show mayQ q = 3 by rw [Hq.out, if_pos (Hm.out (by rw [Hb.out, decide_eq_true h2, Bool.or_true]))])
    clear h1 h2
    go_wp2
    go_ret
    exact ⟨by rw [hr.out]; rfl, HE0.out⟩
   have g2 : ¬ ((4 : Int) < (ul : Int)) := by omega
   have hn2 := hid (Hk.out (by rw [Hb.out, decide_eq_false h1, decide_eq_false h2]; rfl))
   clear h1 h2
   go_wp2_with fail
   go_roundw
   case rel => exact ⟨trivial, k + 1, by omega, by go_num, hn2⟩
   case measure => simp [intOf]; omega
  ·obtain rfl : k = n := by omega
   have hlt' : ¬ ((k : Int) < (k : Int)) := by omega
   have Hbig := hid (any_none (p := bigC) (l := q) fun j hj => HN.out j (by have := Hn.out; omega) hj)
   have Hq2 := hid (show mayQ q = if q.any noneC = true then 5 else if q.any riseC = true then 1 else 0 by rw [Hq.out, Hbig.out]; rfl)
   clear HN Hbig Hq hk hlt
   go_wp2_with fail
   clear hlt' b0
   go_loopw [4, 5] (fun r i wy => ∃ k' : Nat, k' ≤ k ∧ i = .int .i64 (k' : Int) ∧ r = .bool (!(q.take k').any riseC) ∧ Hid (Ext wr wy) ∧ Hid (∀ j (hj : j < k') (h : j < q.length), noneC q[j] = false)) (fun _ i _ => k - (intOf i).toNat)
   case atStart => exact ⟨0, by omega, rfl, rfl, Below.refl _ _, fun j hj => by omega⟩
   case round =>
    obtain ⟨k', hk', rfl, rfl, HE, HN⟩ := hrel
    have c0 := cell_later HE.out B0.out
    by_cases hlt : k' < k
    ·have hkx : k' < q.length := by have := Hn.out; omega
     have hlt' : (k' : Int) < (k : Int) := by omega
     have hk00 : ¬ ((k' : Int) < 0) := by omega
     have hk0 : (0 : Int) ≤ (k' : Int) := by omega
     have H2 := hid (H1.out.grow HE.out)
     obtain ⟨bb, o, T, ta, U, ua, rfl, -, f0, f1, hT, hU⟩ := cl_at H2.out k' hkx
     have HT := hid hT; have HU := hid hU
     have Hno := hid (show noneC q[k'] = true → mayQ q = 5 from fun hp => by rw [Hq2.out, if_pos (List.any_eq_true.2 ⟨_, List.getElem_mem hkx, hp⟩)])
     have Hnc := hid (show noneC q[k'] = (q[k'].tags.any (fun s => !tagN s) || q[k'].types.any (fun s => !mayN s)) from rfl)
     have Hr2 := hid (any_next (p := riseC) hkx)
     have Hrc := hid (show riseC q[k'] = (!riseB q[k'].tags || !riseB q[k'].types) from rfl)
     have Hk := hid (prefix_next (p := noneC) HN.out hkx)
     clear hT hU H2 HN
     generalize (q.take k').any riseC = rb at *
     generalize riseC q[k'] = rc at *
     generalize noneC q[k'] = nc at *
     generalize q[k'].tags = tags at *
     generalize q[k'].types = types at *
     have hta := HT.out.2.1; have htm := HT.out.2.2.1
     have hua := HU.out.2.1; have hum := HU.out.2.2.1
     generalize htl0 : tags.length = tl at *
     generalize hul0 : types.length = ul at *
     have htl := hid htl0; have hul := hid hul0
     clear htl0 hul0
     go_wp2_with fail
     have HEb := hid (ext_alloc wr (.cells #[.slice T tl ta, .slice U ul ua] 67))
     have HX := hid (show ClBox wr.heap.size T tl ta U ul ua (wr.alloc (.cells #[.slice T tl ta, .slice U ul ua] 67)) from heap_alloc_last _ _)
     have HE2 := hid (Ext.trans' HE.out HEb.out)
     have HT2 := hid (HT.out.grow HEb.out); have HU2 := hid (HU.out.grow HEb.out)
     clear HE HEb HT HU f0 f1 c0
     generalize wr.heap.size = bx at *
     generalize wr.alloc (.cells #[.slice T tl ta, .slice U ul ua] 67) = wb at *
     go_loopw [7] (fun i wy => ∃ j : Nat, j ≤ tl ∧ i = .int .i64 (j : Int) ∧ Hid (Ext wb wy) ∧ Hid (∀ j' (hj : j' < j) (h : j' < tags.length), (!tagN tags[j']) = false)) (fun i _ => tl - (intOf i).toNat)
     case atStart => exact ⟨0, by omega, rfl, Below.refl _ _, fun j hj => by omega⟩
     case round =>
      obtain ⟨j, hj, rfl, HE3, HN3⟩ := hrel
      obtain ⟨x0, x1⟩ := (HX.out.ext HE3.out).cells
      by_cases hlt3 : j < tl
      ·have hjx : j < tags.length := by have := htl.out; omega
       have hjt : (j : Int) < (tl : Int) := by omega
       have hj00 : ¬ ((j : Int) < 0) := by omega
       have hj0 : (0 : Int) ≤ (j : Int) := by omega
       obtain ⟨tb, to', rfl, -, f0, hs⟩ := txt_at (HT2.out.grow HE3.out) j hjx
       have Hk3 := hid (prefix_next (p := fun s => !tagN s) HN3.out hjx)
       have Hbad := hid (show (!tagN tags[j]) = true → mayQ q = 5 from fun hp => Hno.out (by rw [Hnc.out, List.any_eq_true.2 ⟨_, List.getElem_mem hjx, hp⟩]; rfl))
       have Ht := hid (show tagN tags[j] = (partsT tags[j]).2.2 from rfl)
       generalize tags[j] = x at *
       go_wp2_with fail
       refine (refParts_at x _ hs).mono ?_
       rintro e w4 ⟨rfl, hE⟩
       have HE4 := hid (Ext.trans' HE3.out hE)
       clear hE f0 x0 x1
       cases hp : (partsT x).2.2
       ·have hr := hid (Hbad.out (by rw [Ht.out, hp]; rfl))
        have HEf := hid (Ext.trans' HE0.out (Ext.trans' HE2.out HE4.out))
        go_wp2
        go_ret
        exact ⟨by rw [hr.out]; rfl, HEf.out⟩
       ·have hn3 := hid (Hk3.out (by rw [Ht.out, hp]; rfl))
        go_wp2_with fail
        go_roundw
        case rel => exact ⟨j + 1, by omega, by go_num, HE4, hn3⟩
        case measure => simp [intOf]; omega
      ·obtain rfl : j = tl := by omega
       have hjt : ¬ ((j : Int) < (j : Int)) := by omega
       have Htags := hid (any_none (p := fun s => !tagN s) (l := tags) fun j' hj => HN3.out j' (by have := htl.out; omega) hj)
       go_wp2_with fail
       clear x0 x1 hjt HN3
       have Hno5 := Hno
       clear Hno
       go_loopw [11] (fun i wy => ∃ j' : Nat, j' ≤ ul ∧ i = .int .i64 (j' : Int) ∧ Hid (Ext wb wy) ∧ Hid (∀ j'' (hj : j'' < j') (h : j'' < types.length), (!mayN types[j'']) = false)) (fun i _ => ul - (intOf i).toNat)
       case atStart => exact ⟨0, by omega, rfl, HE3, fun j hj => by omega⟩
       case round =>
        obtain ⟨j', hj', rfl, HE4, HN4⟩ := hrel
        obtain ⟨x0, x1⟩ := (HX.out.ext HE4.out).cells
        by_cases hlt4 : j' < ul
        ·have hjx : j' < types.length := by have := hul.out; omega
         have hjt : (j' : Int) < (ul : Int) := by omega
         have hj00 : ¬ ((j' : Int) < 0) := by omega
         have hj0 : (0 : Int) ≤ (j' : Int) := by omega
         obtain ⟨tb, to', rfl, -, f0, hs⟩ := txt_at (HU2.out.grow HE4.out) j' hjx
         have Hk3 := hid (prefix_next (p := fun s => !mayN s) HN4.out hjx)
         have Hbad := hid (show (!mayN types[j']) = true → mayQ q = 5 from fun hp => Hno5.out (by rw [Hnc.out, Bool.or_eq_true]; exact .inr (List.any_eq_true.2 ⟨_, List.getElem_mem hjx, hp⟩)))
         generalize types[j'] = x at *
         go_wp2_with fail
         refine (refMayN_at x _).mono ?_
         rintro e w4 ⟨rfl, hE⟩
         have HE5 := hid (Ext.trans' HE4.out hE)
         clear hE f0 x0 x1
         cases hp : mayN x
         ·have hr := hid (Hbad.out (by rw [hp]; rfl))
          have HEf := hid (Ext.trans' HE0.out (Ext.trans' HE2.out HE5.out))
          go_wp2
          go_ret
          exact ⟨by rw [hr.out]; rfl, HEf.out⟩
         ·have hn3 := hid (Hk3.out (by rw [hp]; rfl))
          go_wp2_with fail
          go_roundw
          case rel => exact ⟨j' + 1, by omega, by go_num, HE5, hn3⟩
          case measure => simp [intOf]; omega
        ·obtain rfl : j' = ul := by omega
         have hjt : ¬ ((j' : Int) < (j' : Int)) := by omega
         have Htypes := hid (any_none (p := fun s => !mayN s) (l := types) fun j'' hj => HN4.out j'' (by have := hul.out; omega) hj)
         have Hn2 := hid (Hk.out (by rw [Hnc.out, Htags.out, Htypes.out]; rfl))
         go_wp2_with fail
         have hcc := refRise_at (HT2.out.grow HE4.out)
         refine hcc.mono ?_
         clear hcc x0 x1 hjt HN4
         rintro e w5 ⟨rfl, hE⟩
         have HE5 := hid (Ext.trans' HE4.out hE)
         clear hE
         obtain ⟨x0, x1⟩ := (HX.out.ext HE5.out).cells
         go_wp2_with fail
         have hcc := refRise_at (HU2.out.grow HE5.out)
         refine hcc.mono ?_
         clear hcc x0 x1
         rintro e w6 ⟨rfl, hE⟩
         have HE6 := hid (Ext.trans' HE2.out (Ext.trans' HE5.out hE))
         clear hE
         rw [Hrc.out] at Hr2
         generalize riseB tags = r1 at *
         generalize riseB types = r2 at *
         cases rb <;> cases r1 <;> cases r2
         ·
          have hv : (q.take (k' + 1)).any riseC = true := by rw [Hr2.out]; rfl
          have Hv := hid hv
          clear hv
          go_wp2_with fail
          go_roundw
          case rel => exact ⟨k' + 1, by omega, by go_num, by rw [Hv.out]; rfl, HE6, Hn2⟩
          case measure => simp [intOf]; omega
         ·
          have hv : (q.take (k' + 1)).any riseC = true := by rw [Hr2.out]; rfl
          have Hv := hid hv
          clear hv
          go_wp2_with fail
          go_roundw
          case rel => exact ⟨k' + 1, by omega, by go_num, by rw [Hv.out]; rfl, HE6, Hn2⟩
          case measure => simp [intOf]; omega
         ·
          have hv : (q.take (k' + 1)).any riseC = true := by rw [Hr2.out]; rfl
          have Hv := hid hv
          clear hv
          go_wp2_with fail
          go_roundw
          case rel => exact ⟨k' + 1, by omega, by go_num, by rw [Hv.out]; rfl, HE6, Hn2⟩
          case measure => simp [intOf]; omega
         ·
          have hv : (q.take (k' + 1)).any riseC = false := by rw [Hr2.out]; rfl
          have Hv := hid hv
          clear hv
          go_wp2_with fail
          go_roundw
          case rel => exact ⟨k' + 1, by omega, by go_num, by rw [Hv.out]; rfl, HE6, Hn2⟩
          case measure => simp [intOf]; omega
         ·
          have hv : (q.take (k' + 1)).any riseC = true := by rw [Hr2.out]; rfl
          have Hv := hid hv
          clear hv
          go_wp2_with fail
          go_roundw
          case rel => exact ⟨k' + 1, by omega, by go_num, by rw [Hv.out]; rfl, HE6, Hn2⟩
          case measure => simp [intOf]; omega
         ·
          have hv : (q.take (k' + 1)).any riseC = true := by rw [Hr2.out]; rfl
          have Hv := hid hv
          clear hv
          go_wp2_with fail
          go_roundw
          case rel => exact ⟨k' + 1, by omega, by go_num, by rw [Hv.out]; rfl, HE6, Hn2⟩
          case measure => simp [intOf]; omega
         ·
          have hv : (q.take (k' + 1)).any riseC = true := by rw [Hr2.out]; rfl
          have Hv := hid hv
          clear hv
          go_wp2_with fail
          go_roundw
          case rel => exact ⟨k' + 1, by omega, by go_num, by rw [Hv.out]; rfl, HE6, Hn2⟩
          case measure => simp [intOf]; omega
         ·
          have hv : (q.take (k' + 1)).any riseC = true := by rw [Hr2.out]; rfl
          have Hv := hid hv
          clear hv
          go_wp2_with fail
          go_roundw
          case rel => exact ⟨k' + 1, by omega, by go_num, by rw [Hv.out]; rfl, HE6, Hn2⟩
          case measure => simp [intOf]; omega
    ·obtain rfl : k' = k := by omega
     have hlt' : ¬ ((k' : Int) < (k' : Int)) := by omega
     have hall : q.take k' = q := List.take_of_length_le (by have := Hn.out; omega)
     have Hnone := hid (any_none (p := noneC) (l := q) fun j hj => HN.out j (by have := Hn.out; omega) hj)
     rw [hall]
     cases h3 : q.any riseC
     ·have hr := hid (show mayQ q = 0 by rw [Hq2.out, Hnone.out, h3]; rfl)
      go_wp2
      go_ret
      exact ⟨by rw [hr.out]; rfl, Ext.trans' HE0.out HE.out⟩
     ·have hr := hid (show mayQ q = 1 by rw [Hq2.out, Hnone.out, h3]; rfl)
      go_wp2
      go_ret
      exact ⟨by rw [hr.out]; rfl, Ext.trans' HE0.out HE.out⟩
end Go.Proofs.YtakebdeldndaaaaGreatDoor
/- Which definitions may be, as the document says. -/
namespace Go.Proofs.YtakebdeldndaaaaGreatDoor
open Go Go.RowKit
set_option linter.unusedSimpArgs false
set_option linter.unusedVariables false
set_option maxRecDepth 100000 in
set_option maxHeartbeats 4000000 in
theorem refMayDef_at {w : World} {A : Option Addr} {n c : Nat} {d : DefV} (h : SlR RCl w (· < w.heap.size) A n c d.q) :
  Calls Tryz.prog 88 #[defVal d A n c] w fun e w' => e = .returned (.int .i64 (mayDef d)) ∧ Ext w w' := by
 unfold defVal
 have H := hid h
 have hst := str_toList
 clear h
 have HE0 := hid (ext_alloc w (.cells #[.int .i64 d.kind, .string (str d.field), .slice A n c] 72))
 have Hbx := hid (show DefBox w.heap.size d A n c (w.alloc (.cells #[.int .i64 d.kind, .string (str d.field), .slice A n c] 72)) from heap_alloc_last _ _)
 obtain ⟨b0, b1, b2⟩ := Hbx.out.cells
 go_enter Tryz.func88, Tryz.ntmps88
 by_cases h1 : d.kind < 1
 ·have hr := hid (show mayDef d = 1 by unfold mayDef; rw [if_pos (.inl h1)])
  go_wp2
  go_ret
  exact ⟨by rw [hr.out]; rfl, HE0.out⟩
 by_cases h4 : 4 < d.kind
 ·have hr := hid (show mayDef d = 1 by unfold mayDef; rw [if_pos (.inr h4)])
  go_wp2
  go_ret
  exact ⟨by rw [hr.out]; rfl, HE0.out⟩
 have Hr := hid (show mayDef d = if mayQ d.q ≠ 0 then mayQ d.q else if d.kind = 2 ∨ d.kind = 3 then (if mayN d.field = true then 0 else 5) else if d.field = [] then 0 else 5 by unfold mayDef; rw [if_neg (by omega)])
 go_wp2_with fail
 refine (refQMay_at (H.out.grow HE0.out)).mono ?_
 rintro e w1 ⟨rfl, hE⟩
 have HE1 := hid (Ext.trans' HE0.out hE)
 have Hb1 := hid (Hbx.out.ext hE)
 obtain ⟨c0, c1, c2⟩ := Hb1.out.cells
 clear hE b0 b1 b2
 by_cases hq : mayQ d.q = 0
 rotate_left
 ·have hr := hid (show mayDef d = mayQ d.q by rw [Hr.out, if_pos hq])
  generalize mayQ d.q = x at hq hr ⊢
  go_wp2
  go_ret
  exact ⟨by rw [hr.out]; rfl, HE1.out⟩
 have Hr2 := hid (show mayDef d = if d.kind = 2 ∨ d.kind = 3 then (if mayN d.field = true then 0 else 5) else if d.field = [] then 0 else 5 by rw [Hr.out, if_neg (by rw [hq]; decide)])
 rw [hq]
 clear hq Hr
 go_wp2_with fail
 refine (refMayN_at d.field w1).mono ?_
 rintro e w2 ⟨rfl, hE⟩
 have HE2 := hid (Ext.trans' HE1.out hE)
 have Hb2 := hid (Hb1.out.ext hE)
 clear hE c0 c1 c2
 obtain ⟨c0, c1, c2⟩ := Hb2.out.cells
 by_cases hk : d.kind = 2 ∨ d.kind = 3
 ·have Hr3 := hid (show mayDef d = if mayN d.field = true then 0 else 5 by rw [Hr2.out, if_pos hk])
  rcases hk with hk | hk
  all_goals
   rw [hk] at c0
   clear hk h1 h4
   cases hmn : mayN d.field
   ·have hr := hid (show mayDef d = 5 by rw [Hr3.out, hmn]; rfl)
    go_wp2
    go_ret
    exact ⟨by rw [hr.out]; rfl, HE2.out⟩
   ·have hr := hid (show mayDef d = 0 by rw [Hr3.out, hmn]; rfl)
    go_wp2
    go_ret
    exact ⟨by rw [hr.out]; rfl, HE2.out⟩
 ·have Hr3 := hid (show mayDef d = if d.field = [] then 0 else 5 by rw [Hr2.out, if_neg hk])
  have k2 : (d.kind == 2) = false := beq_eq_false_iff_ne.2 fun e => hk (.inl e)
  have k3 : (d.kind == 3) = false := beq_eq_false_iff_ne.2 fun e => hk (.inr e)
  have k2' : ¬ (d.kind = 2) := fun e => hk (.inl e)
  have k3' : ¬ (d.kind = 3) := fun e => hk (.inr e)
  generalize mayN d.field = mn at *
  by_cases hf : d.field = []
  ·have hr := hid (show mayDef d = 0 by rw [Hr3.out, if_pos hf])
   have hfe : (d.field == []) = true := by rw [hf]; rfl
   rw [hf] at c1
   clear hk h1 h4 hf
   go_wp2
   go_ret
   exact ⟨by rw [hr.out]; rfl, HE2.out⟩
  ·have hr := hid (show mayDef d = 5 by rw [Hr3.out, if_neg hf])
   have hfe : (d.field == []) = false := beq_eq_false_iff_ne.2 hf
   clear hk h1 h4
   generalize d.field = f at c1 hfe hf
   go_wp2
   go_ret
   exact ⟨by rw [hr.out]; rfl, HE2.out⟩
structure RefSt (w : World) (S : Nat → Prop) (y : Nat) (d : DefV) (D : Ents) : Prop where
 box : ∃ A c B m b, w.heap[y]? = some (.cells #[.int .i64 d.kind, .string (str d.field), .slice A d.q.length c, .slice B m b] 158) ∧ SlR RCl w (Out S w) A d.q.length c d.q ∧ SlR REnt w (Out S w) B m b D
 yIn : S y
section
variable {w w' : World} {S S' : Nat → Prop} {y a b : Nat} {d : DefV} {D D' : Ents}
theorem RefSt.lt (h : RefSt w S y d D) : y < w.heap.size := by
 obtain ⟨A, c, B, m, b, h1, -⟩ := h.box
 exact (Array.getElem?_eq_some_iff.1 h1).1
theorem RefSt.more (h : RefSt w S y d D) (hE : Ext w w') (hS : ∀ k, S' k → S k ∨ w.heap.size ≤ k) (hy : S' y) : RefSt w' S' y d D := by
 obtain ⟨A, c, B, m, b, h1, h2, h3⟩ := h.box
 exact ⟨⟨A, c, B, m, b, (hE.block y h.lt).trans h1, slR_more h2 hE hS, slR_more h3 hE hS⟩, hy⟩
theorem RefSt.ext (h : RefSt w S y d D) (hE : Ext w w') : RefSt w' S y d D := h.more hE (fun _ hk => .inl hk) h.yIn
theorem RefSt.kept (h : RefSt w S y d D) (hk : Kept2 a b w w') (ha : S a) (hb : S b) (h1 : y ≠ a) (h2 : y ≠ b) : RefSt w' S y d D := by
 obtain ⟨A, c, B, m, b', g1, g2, g3⟩ := h.box
 exact ⟨⟨A, c, B, m, b', (hk.block y h.lt h1 h2).trans g1, slR_kept g2 hk ha hb, slR_kept g3 hk ha hb⟩, h.yIn⟩
end
set_option maxRecDepth 100000 in
set_option maxHeartbeats 4000000 in
theorem refNew_at {w : World} {n0 : Nat} {A : Option Addr} {n c : Nat} {d : DefV} (h : SlR RCl w (· < n0) A n c d.q) (hn0 : n0 ≤ w.heap.size) :
  Calls Tryz.prog 100 #[defVal d A n c] w fun e w' => Ext w w' ∧ ((mayDef d ≠ 0 ∧ e = .returned (.tuple #[.pointer none, .int .i64 (mayDef d)])) ∨
   (mayDef d = 0 ∧ ∃ y, e = .returned (.tuple #[.pointer (some ⟨y, 0, none⟩), .int .i64 0]) ∧ w.heap.size ≤ y ∧ (∀ S : Nat → Prop, (∀ k, S k → n0 ≤ k) → S y → RefSt w' S y d []))) := by
 have hv := hid (show defVal d A n c = .agg #[.int .i64 d.kind, .string (str d.field), .slice A n c] from rfl)
 rw [hv.out]
 have H := hid h
 clear h
 have HE0 := hid (ext_alloc w (.cells #[.int .i64 d.kind, .string (str d.field), .slice A n c] 72))
 have Hbx := hid (show DefBox w.heap.size d A n c (w.alloc (.cells #[.int .i64 d.kind, .string (str d.field), .slice A n c] 72)) from heap_alloc_last _ _)
 obtain ⟨b0, b1, b2⟩ := Hbx.out.cells
 have hmd := refMayDef_at ((H.out.mono fun k hk => Nat.lt_of_lt_of_le hk hn0).grow HE0.out)
 rw [hv.out] at hmd
 go_enter Tryz.func100, Tryz.ntmps100
 go_wp2_with fail
 refine hmd.mono ?_
 rintro e w1 ⟨rfl, hE⟩
 have HE1 := hid (Ext.trans' HE0.out hE)
 have Hb1 := hid (Hbx.out.ext hE)
 clear hE hmd b0 b1 b2
 by_cases hm : mayDef d = 0
 rotate_left
 ·have Hm := hid hm
  have hx : (mayDef d != 0) = true := by simpa using hm
  have hx2 : (mayDef d == 0) = false := by simpa using hm
  clear hm
  go_wp2
  go_ret2
  exact ⟨HE1.out, .inl ⟨Hm.out, rfl⟩⟩
 ·have Hm := hid hm
  rw [hm]
  have hn := H.out.1
  subst hn
  obtain ⟨c0, c1, c2⟩ := Hb1.out.cells
  clear hm
  have HE2 := hid (Ext.trans' HE1.out (ext_alloc w1 (.cells #[.int .i64 d.kind, .string (str d.field), .slice A d.q.length c, .slice none 0 0] 158)))
  have HR := hid (show ∀ S : Nat → Prop, (∀ k, S k → n0 ≤ k) → S w1.heap.size → RefSt (w1.alloc (.cells #[.int .i64 d.kind, .string (str d.field), .slice A d.q.length c, .slice none 0 0] 158)) S w1.heap.size d [] from fun S hS hy =>
   ⟨⟨A, c, none, 0, 0, heap_alloc_last _ _, (H.out.ext fun k hk => HE2.out.block k (Nat.lt_of_lt_of_le hk hn0)).mono fun k hk => ⟨Nat.lt_of_lt_of_le hk (Nat.le_trans hn0 HE2.out.size), fun h => by have := hS k h; omega⟩, slR_nil _ _⟩, hy⟩)
  have hsz := HE1.out.size
  go_wp2
  go_ret2
  exact ⟨HE2.out, .inr ⟨Hm.out, _, rfl, hsz, HR.out⟩⟩
end Go.Proofs.YtakebdeldndaaaaGreatDoor
/- The reference's entries: what is found, what is set. -/
namespace Go.Proofs.YtakebdeldndaaaaGreatDoor
open Go Go.RowKit
set_option linter.unusedSimpArgs false
set_option linter.unusedVariables false
set_option maxRecDepth 100000 in
theorem refFits_at (n : Int) (w : World) : Calls Tryz.prog 148 #[.int .i64 n] w fun e w' => e = .returned (.bool (fitsN n)) ∧ w' = w := by
 go_enter Tryz.func148, Tryz.ntmps148
 by_cases h1 : -1125899906842624 ≤ n
 ·by_cases h2 : n ≤ 1125899906842624
  ·have hr := hid (show fitsN n = true from decide_eq_true ⟨h1, h2⟩)
   go_wp2
   go_ret
   exact ⟨by rw [hr.out]; rfl, rfl⟩
  ·have hr := hid (show fitsN n = false from decide_eq_false fun h => h2 h.2)
   go_wp2
   go_ret
   exact ⟨by rw [hr.out]; rfl, rfl⟩
 ·have hr := hid (show fitsN n = false from decide_eq_false fun h => h1 h.1)
  go_wp2
  go_ret
  exact ⟨by rw [hr.out]; rfl, rfl⟩
theorem RefSt.cells {w : World} {S : Nat → Prop} {y : Nat} {d : DefV} {D : Ents} (h : RefSt w S y d D) : ∃ A c B b, w.cell? ⟨y, 0, none⟩ = some (.int .i64 d.kind) ∧ w.cell? ⟨y, 1, none⟩ = some (.string (str d.field)) ∧ w.cell? ⟨y, 2, none⟩ = some (.slice A d.q.length c) ∧ w.cell? ⟨y, 3, none⟩ = some (.slice B D.length b) ∧
  SlR RCl w (Out S w) A d.q.length c d.q ∧ SlR REnt w (Out S w) B D.length b D ∧ (∀ o, w.frozen? ⟨y, o, none⟩ = false) := by
 obtain ⟨A, c, B, m, b, h1, h2, h3⟩ := h.box
 obtain rfl := h3.1
 refine ⟨A, c, B, b, ?_, ?_, ?_, ?_, h2, h3, fun o => by simp [World.frozen?, h1]⟩ <;> · rw [cell_of_row _ _ _ _ _ _ h1]; rfl
end Go.Proofs.YtakebdeldndaaaaGreatDoor
/- The reference's set. -/
namespace Go.Proofs.YtakebdeldndaaaaGreatDoor
open Go Go.RowKit
set_option linter.unusedSimpArgs false
set_option linter.unusedVariables false
theorem RefSt.setL {w : World} {S : Nat → Prop} {y : Nat} {d : DefV} {D D' : Ents} (h : RefSt w S y d D) {B : Option Addr} {b : Nat} (hL : SlR REnt w (Out S w) B D'.length b D') :
  RefSt (w.setCell ⟨y, 3, none⟩ (.slice B D'.length b)) S y d D' ∧ Kept2 y y w (w.setCell ⟨y, 3, none⟩ (.slice B D'.length b)) := by
 obtain ⟨A, c, B0, m, b0, h1, h2, h3⟩ := h.box
 have hk : Kept2 y y w (w.setCell ⟨y, 3, none⟩ (.slice B D'.length b)) := ⟨rfl, rfl, rfl, by simp, fun k hk h1 _ => heap_setCell_other w ⟨y, 3, none⟩ k _ (fun e => h1 e)⟩
 exact ⟨⟨⟨A, c, B, D'.length, b, heap_setCell_row h1 _, slR_kept h2 hk h.yIn h.yIn, slR_kept hL hk h.yIn h.yIn⟩, h.yIn⟩, hk⟩
end Go.Proofs.YtakebdeldndaaaaGreatDoor
/- The reference's Load. Printed by wip/tools/gen_refload.py. -/
namespace Go.Proofs.YtakebdeldndaaaaGreatDoor
open Go Go.RowKit
set_option linter.unusedSimpArgs false
set_option linter.unusedVariables false
set_option maxRecDepth 100000 in
set_option maxHeartbeats 8000000 in
theorem refLoad_at {w : World} {S : Nat → Prop} {s : Nat} {df : DefV} {D : Ents} (h : RefSt w S s df D) {A : Option Addr} {n c : Nat} {l : Ents} (hl : SlR REnt w (Out S w) A n c l) (hlen : l.length < 1000000) (hSlt : ∀ k, S k → k < w.heap.size) :
  Calls Tryz.prog 134 #[.pointer (some ⟨s, 0, none⟩), .slice A n c] w fun x w' => x = .returned (.int .i64 (loadE df l)) ∧ RefSt w' S s df (loadF df l D) ∧ Kept2 s s w w' := by
 have hn := hid hl.1
 have hnc := hl.2.1
 have hcm := hl.2.2.1
 have HSt := hid h
 have HL := hid hl
 have Hlen := hid hlen
 have hst := str_toList
 obtain ⟨_, _, _, _, c0, -, -, -, -, -, -⟩ := h.cells
 have C0 := hid c0
 clear h hl c0
 have HNO := hid (show ∀ W, Ext w W → okE df l = false → Ending.returned (.int .i64 1) = .returned (.int .i64 (loadE df l)) ∧ RefSt W S s df (loadF df l D) ∧ Kept2 s s w W from fun W hE ho =>
  ⟨by rw [loadE_no ho], by rw [loadF_no ho]; exact HSt.out.ext hE, Kept2.of_ext hE⟩)
 go_enter Tryz.func134, Tryz.ntmps134
 go_wp2_with fail
 go_loopw [5] (fun i wr => ∃ k : Nat, k ≤ n ∧ i = .int .i64 (k : Int) ∧ Hid (Ext w wr) ∧ Hid (∀ j, j < k → badE df l j = false)) (fun i _ => n - (intOf i).toNat)
 case atStart => exact ⟨0, by omega, rfl, Below.refl _ _, hid fun j hj => by omega⟩
 case round =>
  obtain ⟨k, hk, rfl, HEr, HN⟩ := hrel
  by_cases hlt : k < n
  ·have hkx : k < l.length := by have := hn.out; omega
   have hlt' : (k : Int) < (n : Int) := by omega
   have hk00 : ¬ ((k : Int) < 0) := by omega
   have hk0 : (0 : Int) ≤ (k : Int) := by omega
   have HLr := hid ((slR_out HL.out).grow HEr.out)
   obtain ⟨b, o, rfl, -, f0, f1, hsk⟩ := field_at HLr.out k hkx
   have Hbe := hid (show badE df l k = ((decide (0 < k) && !bytesBefore (gE l (k - 1)).1 l[k].1) || !fitsN l[k].2 || (decide (l[k].2 = 0) && decide (df.kind ≠ 3))) by unfold badE; rw [gE_at hkx])
   have HF1 := hid (show 0 < k → ∃ y, gE l (k - 1) = y ∧ wr.cell? ⟨b, o + (k - 1) * 2, none⟩ = some (.string (str y.1)) from fun h0 => by
    obtain ⟨b2, o2, e2, -, g0, -, -⟩ := field_at HLr.out (k - 1) (by omega)
    simp only [Option.some.injEq, Addr.mk.injEq, and_true] at e2
    obtain ⟨rfl, rfl⟩ := e2
    exact ⟨_, gE_at (by omega), g0⟩)
   have hNk : ∀ j, j < k + 1 → j = k ∨ j < k := fun j hj => by omega
   have HNk := hid hNk
   clear hsk hNk
   generalize l[k].1 = ky at *
   generalize l[k].2 = vl at *
   have Fk := hid f0
   have Fv := hid f1
   have Kc := hid (cell_below HEr.out C0.out)
   clear f0 f1
   have hg1 : 0 < k → IntKind.i64.wrap ((k : Int) - 1) = (k : Int) - 1 ∧ (1 : Int) ≤ (k : Int) ∧ (k : Int) - 1 < (n : Int) ∧ ((k : Int) - 1).toNat = k - 1 := fun h0 => ⟨by rw [IntKind.wrap_i64]; omega, by omega, by omega, by omega⟩
   have hbk := (show badE df l k = ((decide (0 < k) && !bytesBefore (gE l (k - 1)).1 ky) || !fitsN vl || (decide (vl = 0) && !decide (df.kind = 3))) by rw [Hbe.out]; congr 2; by_cases h3 : df.kind = 3 <;> simp [h3])
   have hzz : (vl == 0) = decide (vl = 0) := rfl
   have hkk : (df.kind != 3) = !decide (df.kind = 3) := rfl
   have hpp : decide ((0 : Int) < (k : Int)) = decide (0 < k) := by by_cases h : 0 < k <;> simp [h]
   have HPK := hid (show (decide (0 < k) = true → 0 < k) from fun h => of_decide_eq_true h)
   obtain ⟨y, hy⟩ : ∃ y, y = (gE l (k - 1)).1 := ⟨_, rfl⟩
   have HF2 := hid (show decide (0 < k) = true → wr.cell? ⟨b, o + (k - 1) * 2, none⟩ = some (.string (str y)) from fun h => by
    obtain ⟨y', h1, h2⟩ := HF1.out (of_decide_eq_true h)
    rw [hy, h1]; exact h2)
   have HG1 := hid (show decide (0 < k) = true → IntKind.i64.wrap ((k : Int) - 1) = (k : Int) - 1 ∧ (1 : Int) ≤ (k : Int) ∧ (k : Int) - 1 < (n : Int) ∧ ((k : Int) - 1).toNat = k - 1 from fun h => hg1 (of_decide_eq_true h))
   rw [← hy, ← tb_less] at hbk
   have HPP := hid hpp
   have HZZ := hid hzz
   have HKK := hid hkk
   clear hg1 hpp hzz hkk Hbe HF1 hy
   generalize hbz : decide (0 < k) = bz at hbk HF2 HG1 HPP HPK
   generalize hls : Op.bytesLess y ky = ls at hbk
   generalize hfb : fitsN vl = fb at hbk
   generalize hzb : decide (vl = 0) = zb at hbk HZZ
   generalize hkb : decide (df.kind = 3) = kb at hbk HKK
   have Hls := hid hls; have Hfb := hid hfb; have Hkb := hid hkb
   have Hbz := hid hbz
   clear hbz hls hfb hzb hkb
   obtain ⟨r12, hr12⟩ : ∃ r, r = (bz && !ls) := ⟨_, rfl⟩
   obtain ⟨r18, hr18⟩ : ∃ r, r = (r12 || !fb) := ⟨_, rfl⟩
   obtain ⟨r23, hr23⟩ : ∃ r, r = (!r18 && zb) := ⟨_, rfl⟩
   obtain ⟨r27, hr27⟩ : ∃ r, r = (zb && !kb) := ⟨_, rfl⟩
   obtain ⟨r28, hr28⟩ : ∃ r, r = (r18 || r27) := ⟨_, rfl⟩
   have Hbk := hid (show badE df l k = r28 by rw [hbk, hr28, hr27, hr18, hr12])
   have H12 := hid hr12; have H18 := hid hr18; have H23 := hid hr23; have H27 := hid hr27; have H28 := hid hr28
   clear hbk hr12 hr18 hr23 hr27 hr28
   go_wp2_with fail
   apply wp_drawn [isV _, isV (.bool bz), isV (.bool bz), isV (bif bz then .slice (some ⟨b, o, none⟩) n c else undef), isV (bif bz then .int .i64 (k : Int) else undef), isV (bif bz then .int .i64 ((k : Int) - 1) else undef), isV (bif bz then .pointer (some ⟨b, o + (k - 1) * 2, none⟩) else undef), isV (bif bz then .pointer (some ⟨b, o + (k - 1) * 2, none⟩) else undef), isV (bif bz then .string (str y) else undef), isV (bif bz then .slice (some ⟨b, o, none⟩) n c else undef), isV (bif bz then .int .i64 (k : Int) else undef), isV (bif bz then .pointer (some ⟨b, o + k * 2, none⟩) else undef), isV (bif bz then .pointer (some ⟨b, o + k * 2, none⟩) else undef), isV (bif bz then .string (str ky) else undef), isV (bif bz then .bool (!ls) else undef), isV (.bool r12), isV (.bool r12), isV (bif r12 then undef else .slice (some ⟨b, o, none⟩) n c), isV (bif r12 then undef else .int .i64 (k : Int)), isV (bif r12 then undef else .pointer (some ⟨b, o + k * 2, none⟩)), isV (bif r12 then undef else .pointer (some ⟨b, o + k * 2 + 1, none⟩)), isV (bif r12 then undef else .int .i64 vl), isV (bif r12 then undef else .bool fb), isV (bif r12 then undef else .bool (!fb)), isV (.bool r18), isV (.bool r18), isV (bif r18 then undef else .slice (some ⟨b, o, none⟩) n c), isV (bif r18 then undef else .int .i64 (k : Int)), isV (bif r18 then undef else .pointer (some ⟨b, o + k * 2, none⟩)), isV (bif r18 then undef else .pointer (some ⟨b, o + k * 2 + 1, none⟩)), isV (bif r18 then undef else .int .i64 vl), isV (bif r18 then undef else .bool zb), isV (bif r18 then undef else .bool zb), isV (bif r23 then .pointer (some ⟨s, 0, none⟩) else undef), isV (bif r23 then .pointer (some ⟨s, 0, none⟩) else undef), isV (bif r23 then .pointer (some ⟨s, 0, none⟩) else undef), isV (bif r23 then .pointer (some ⟨s, 0, none⟩) else undef), isV (bif r23 then .int .i64 df.kind else undef), isV (bif r23 then .bool (!kb) else undef), isV (bif r18 then undef else .bool r27), isV (.bool r28)] (by kernel_rfl)
   ·kernel_rfl
   ·refine ⟨?ros0, ?ros1, ?ros2, ?ros3, ?ros4, ?ros5, ?ros6, ?ros7, ?ros8, ?ros9, ?ros10, ?ros11, ?ros12, ?ros13, ?ros14, ?ros15, ?ros16, ?ros17, ?ros18, ?ros19, ?ros20, ?ros21, ?ros22, ?ros23, ?ros24, ?ros25, ?ros26, ?ros27, ?ros28, ?ros29, ?ros30, ?ros31, ?ros32, ?ros33, ?ros34, ?ros35, ?ros36, ?ros37, ?ros38, ?ros39, ?ros40, trivial⟩
    case ros0 =>
     intro v W hE hd; simp only [Region.wanted, ↓reduceIte]; (try simp [deps, waitsOn, Region.binds, knowing, isV, ownsV, anyV] at hd); simp only [putAll, List.take_succ_cons, List.take_zero, List.drop_succ_cons, List.drop_zero, Act.put, List.setIfInBounds_toArray, List.set_cons_zero, List.set_cons_succ, Nat.zero_add, Nat.reduceAdd]; go_simp; exact ⟨Below.refl _ _, rfl⟩
    case ros1 =>
     intro v W hE hd; simp only [Region.wanted, ↓reduceIte]; (try simp [deps, waitsOn, Region.binds, knowing, isV, ownsV, anyV] at hd); simp only [putAll, List.take_succ_cons, List.take_zero, List.drop_succ_cons, List.drop_zero, Act.put, List.setIfInBounds_toArray, List.set_cons_zero, List.set_cons_succ, Nat.zero_add, Nat.reduceAdd]
     go_simp
     exact ⟨Below.refl _ _, by show Value.bool _ = _; rw [Hbz.out]⟩
    case ros2 =>
     intro v W hE hd; simp only [Region.wanted, ↓reduceIte]; (try simp [deps, waitsOn, Region.binds, knowing, isV, ownsV, anyV] at hd); simp only [putAll, List.take_succ_cons, List.take_zero, List.drop_succ_cons, List.drop_zero, Act.put, List.setIfInBounds_toArray, List.set_cons_zero, List.set_cons_succ, Nat.zero_add, Nat.reduceAdd]
     go_simp
     exact ⟨Below.refl _ _, rfl⟩
    case ros3 =>
     intro v W hE hd
     cases bz
     ·(try simp [deps, waitsOn, Region.binds, knowing, isV, ownsV, anyV] at hd); simp only [putAll, List.take_succ_cons, List.take_zero, List.drop_succ_cons, List.drop_zero, Act.put, List.setIfInBounds_toArray, List.set_cons_zero, List.set_cons_succ, Nat.zero_add, Nat.reduceAdd]; rw [if_neg (by simp [Region.wanted, yielded, hd, undef])]; exact rfl
     ·(try simp [deps, waitsOn, Region.binds, knowing, isV, ownsV, anyV] at hd); simp only [putAll, List.take_succ_cons, List.take_zero, List.drop_succ_cons, List.drop_zero, Act.put, List.setIfInBounds_toArray, List.set_cons_zero, List.set_cons_succ, Nat.zero_add, Nat.reduceAdd]; rw [if_pos (by simp [Region.wanted, yielded, hd])]
      go_simp
      exact ⟨Below.refl _ _, rfl⟩
    case ros4 =>
     intro v W hE hd
     cases bz
     ·(try simp [deps, waitsOn, Region.binds, knowing, isV, ownsV, anyV] at hd); simp only [putAll, List.take_succ_cons, List.take_zero, List.drop_succ_cons, List.drop_zero, Act.put, List.setIfInBounds_toArray, List.set_cons_zero, List.set_cons_succ, Nat.zero_add, Nat.reduceAdd]; rw [if_neg (by simp [Region.wanted, yielded, hd, undef])]; exact rfl
     ·(try simp [deps, waitsOn, Region.binds, knowing, isV, ownsV, anyV] at hd); simp only [putAll, List.take_succ_cons, List.take_zero, List.drop_succ_cons, List.drop_zero, Act.put, List.setIfInBounds_toArray, List.set_cons_zero, List.set_cons_succ, Nat.zero_add, Nat.reduceAdd]; rw [if_pos (by simp [Region.wanted, yielded, hd])]
      go_simp
      exact ⟨Below.refl _ _, rfl⟩
    case ros5 =>
     intro v W hE hd
     cases bz
     ·(try simp [deps, waitsOn, Region.binds, knowing, isV, ownsV, anyV] at hd); simp only [putAll, List.take_succ_cons, List.take_zero, List.drop_succ_cons, List.drop_zero, Act.put, List.setIfInBounds_toArray, List.set_cons_zero, List.set_cons_succ, Nat.zero_add, Nat.reduceAdd]; rw [if_neg (by simp [Region.wanted, yielded, hd, undef])]; exact rfl
     ·(try simp [deps, waitsOn, Region.binds, knowing, isV, ownsV, anyV] at hd); simp only [putAll, List.take_succ_cons, List.take_zero, List.drop_succ_cons, List.drop_zero, Act.put, List.setIfInBounds_toArray, List.set_cons_zero, List.set_cons_succ, Nat.zero_add, Nat.reduceAdd]; rw [if_pos (by simp [Region.wanted, yielded, hd])]
      obtain ⟨hw, g1, g2, g3⟩ := HG1.out rfl
      go_simp
      exact ⟨Below.refl _ _, rfl⟩
    case ros6 =>
     intro v W hE hd
     cases bz
     ·(try simp [deps, waitsOn, Region.binds, knowing, isV, ownsV, anyV] at hd); simp only [putAll, List.take_succ_cons, List.take_zero, List.drop_succ_cons, List.drop_zero, Act.put, List.setIfInBounds_toArray, List.set_cons_zero, List.set_cons_succ, Nat.zero_add, Nat.reduceAdd]; rw [if_neg (by simp [Region.wanted, yielded, hd, undef])]; exact rfl
     ·(try simp [deps, waitsOn, Region.binds, knowing, isV, ownsV, anyV] at hd); simp only [putAll, List.take_succ_cons, List.take_zero, List.drop_succ_cons, List.drop_zero, Act.put, List.setIfInBounds_toArray, List.set_cons_zero, List.set_cons_succ, Nat.zero_add, Nat.reduceAdd]; rw [if_pos (by simp [Region.wanted, yielded, hd])]
      obtain ⟨hw, g1, g2, g3⟩ := HG1.out rfl
      go_simp
      exact ⟨Below.refl _ _, rfl⟩
    case ros7 =>
     intro v W hE hd
     cases bz
     ·(try simp [deps, waitsOn, Region.binds, knowing, isV, ownsV, anyV] at hd); simp only [putAll, List.take_succ_cons, List.take_zero, List.drop_succ_cons, List.drop_zero, Act.put, List.setIfInBounds_toArray, List.set_cons_zero, List.set_cons_succ, Nat.zero_add, Nat.reduceAdd]; rw [if_neg (by simp [Region.wanted, yielded, hd, undef])]; exact rfl
     ·(try simp [deps, waitsOn, Region.binds, knowing, isV, ownsV, anyV] at hd); simp only [putAll, List.take_succ_cons, List.take_zero, List.drop_succ_cons, List.drop_zero, Act.put, List.setIfInBounds_toArray, List.set_cons_zero, List.set_cons_succ, Nat.zero_add, Nat.reduceAdd]; rw [if_pos (by simp [Region.wanted, yielded, hd])]
      go_simp
      exact ⟨Below.refl _ _, rfl⟩
    case ros8 =>
     intro v W hE hd
     cases bz
     ·(try simp [deps, waitsOn, Region.binds, knowing, isV, ownsV, anyV] at hd); simp only [putAll, List.take_succ_cons, List.take_zero, List.drop_succ_cons, List.drop_zero, Act.put, List.setIfInBounds_toArray, List.set_cons_zero, List.set_cons_succ, Nat.zero_add, Nat.reduceAdd]; rw [if_neg (by simp [Region.wanted, yielded, hd, undef])]; exact rfl
     ·(try simp [deps, waitsOn, Region.binds, knowing, isV, ownsV, anyV] at hd); simp only [putAll, List.take_succ_cons, List.take_zero, List.drop_succ_cons, List.drop_zero, Act.put, List.setIfInBounds_toArray, List.set_cons_zero, List.set_cons_succ, Nat.zero_add, Nat.reduceAdd]; rw [if_pos (by simp [Region.wanted, yielded, hd])]
      have e1 := cell_below hE (HF2.out rfl)
      go_simp
      exact ⟨Below.refl _ _, rfl⟩
    case ros9 =>
     intro v W hE hd
     cases bz
     ·(try simp [deps, waitsOn, Region.binds, knowing, isV, ownsV, anyV] at hd); simp only [putAll, List.take_succ_cons, List.take_zero, List.drop_succ_cons, List.drop_zero, Act.put, List.setIfInBounds_toArray, List.set_cons_zero, List.set_cons_succ, Nat.zero_add, Nat.reduceAdd]; rw [if_neg (by simp [Region.wanted, yielded, hd, undef])]; exact rfl
     ·(try simp [deps, waitsOn, Region.binds, knowing, isV, ownsV, anyV] at hd); simp only [putAll, List.take_succ_cons, List.take_zero, List.drop_succ_cons, List.drop_zero, Act.put, List.setIfInBounds_toArray, List.set_cons_zero, List.set_cons_succ, Nat.zero_add, Nat.reduceAdd]; rw [if_pos (by simp [Region.wanted, yielded, hd])]
      go_simp
      exact ⟨Below.refl _ _, rfl⟩
    case ros10 =>
     intro v W hE hd
     cases bz
     ·(try simp [deps, waitsOn, Region.binds, knowing, isV, ownsV, anyV] at hd); simp only [putAll, List.take_succ_cons, List.take_zero, List.drop_succ_cons, List.drop_zero, Act.put, List.setIfInBounds_toArray, List.set_cons_zero, List.set_cons_succ, Nat.zero_add, Nat.reduceAdd]; rw [if_neg (by simp [Region.wanted, yielded, hd, undef])]; exact rfl
     ·(try simp [deps, waitsOn, Region.binds, knowing, isV, ownsV, anyV] at hd); simp only [putAll, List.take_succ_cons, List.take_zero, List.drop_succ_cons, List.drop_zero, Act.put, List.setIfInBounds_toArray, List.set_cons_zero, List.set_cons_succ, Nat.zero_add, Nat.reduceAdd]; rw [if_pos (by simp [Region.wanted, yielded, hd])]
      go_simp
      exact ⟨Below.refl _ _, rfl⟩
    case ros11 =>
     intro v W hE hd
     cases bz
     ·(try simp [deps, waitsOn, Region.binds, knowing, isV, ownsV, anyV] at hd); simp only [putAll, List.take_succ_cons, List.take_zero, List.drop_succ_cons, List.drop_zero, Act.put, List.setIfInBounds_toArray, List.set_cons_zero, List.set_cons_succ, Nat.zero_add, Nat.reduceAdd]; rw [if_neg (by simp [Region.wanted, yielded, hd, undef])]; exact rfl
     ·(try simp [deps, waitsOn, Region.binds, knowing, isV, ownsV, anyV] at hd); simp only [putAll, List.take_succ_cons, List.take_zero, List.drop_succ_cons, List.drop_zero, Act.put, List.setIfInBounds_toArray, List.set_cons_zero, List.set_cons_succ, Nat.zero_add, Nat.reduceAdd]; rw [if_pos (by simp [Region.wanted, yielded, hd])]
      go_simp
      exact ⟨Below.refl _ _, rfl⟩
    case ros12 =>
     intro v W hE hd
     cases bz
     ·(try simp [deps, waitsOn, Region.binds, knowing, isV, ownsV, anyV] at hd); simp only [putAll, List.take_succ_cons, List.take_zero, List.drop_succ_cons, List.drop_zero, Act.put, List.setIfInBounds_toArray, List.set_cons_zero, List.set_cons_succ, Nat.zero_add, Nat.reduceAdd]; rw [if_neg (by simp [Region.wanted, yielded, hd, undef])]; exact rfl
     ·(try simp [deps, waitsOn, Region.binds, knowing, isV, ownsV, anyV] at hd); simp only [putAll, List.take_succ_cons, List.take_zero, List.drop_succ_cons, List.drop_zero, Act.put, List.setIfInBounds_toArray, List.set_cons_zero, List.set_cons_succ, Nat.zero_add, Nat.reduceAdd]; rw [if_pos (by simp [Region.wanted, yielded, hd])]
      go_simp
      exact ⟨Below.refl _ _, rfl⟩
    case ros13 =>
     intro v W hE hd
     cases bz
     ·(try simp [deps, waitsOn, Region.binds, knowing, isV, ownsV, anyV] at hd); simp only [putAll, List.take_succ_cons, List.take_zero, List.drop_succ_cons, List.drop_zero, Act.put, List.setIfInBounds_toArray, List.set_cons_zero, List.set_cons_succ, Nat.zero_add, Nat.reduceAdd]; rw [if_neg (by simp [Region.wanted, yielded, hd, undef])]; exact rfl
     ·(try simp [deps, waitsOn, Region.binds, knowing, isV, ownsV, anyV] at hd); simp only [putAll, List.take_succ_cons, List.take_zero, List.drop_succ_cons, List.drop_zero, Act.put, List.setIfInBounds_toArray, List.set_cons_zero, List.set_cons_succ, Nat.zero_add, Nat.reduceAdd]; rw [if_pos (by simp [Region.wanted, yielded, hd])]
      have e1 := cell_below hE Fk.out
      go_simp
      exact ⟨Below.refl _ _, rfl⟩
    case ros14 =>
     intro v W hE hd
     cases bz
     ·(try simp [deps, waitsOn, Region.binds, knowing, isV, ownsV, anyV] at hd); simp only [putAll, List.take_succ_cons, List.take_zero, List.drop_succ_cons, List.drop_zero, Act.put, List.setIfInBounds_toArray, List.set_cons_zero, List.set_cons_succ, Nat.zero_add, Nat.reduceAdd]; rw [if_neg (by simp [Region.wanted, yielded, hd, undef])]; exact rfl
     ·(try simp [deps, waitsOn, Region.binds, knowing, isV, ownsV, anyV] at hd); simp only [putAll, List.take_succ_cons, List.take_zero, List.drop_succ_cons, List.drop_zero, Act.put, List.setIfInBounds_toArray, List.set_cons_zero, List.set_cons_succ, Nat.zero_add, Nat.reduceAdd]; rw [if_pos (by simp [Region.wanted, yielded, hd])]
      go_simp
      exact ⟨Below.refl _ _, by show Value.bool _ = _; rw [Hls.out]⟩
    case ros15 =>
     intro v W hE hd; simp only [Region.wanted, ↓reduceIte]; (try simp [deps, waitsOn, Region.binds, knowing, isV, ownsV, anyV] at hd); simp only [putAll, List.take_succ_cons, List.take_zero, List.drop_succ_cons, List.drop_zero, Act.put, List.setIfInBounds_toArray, List.set_cons_zero, List.set_cons_succ, Nat.zero_add, Nat.reduceAdd]
     rw [H12.out]
     cases bz <;> cases ls
     all_goals
      simp only [cond_true, cond_false] at hd
      go_simp
      exact ⟨Below.refl _ _, rfl⟩
    case ros16 =>
     intro v W hE hd; simp only [Region.wanted, ↓reduceIte]; (try simp [deps, waitsOn, Region.binds, knowing, isV, ownsV, anyV] at hd); simp only [putAll, List.take_succ_cons, List.take_zero, List.drop_succ_cons, List.drop_zero, Act.put, List.setIfInBounds_toArray, List.set_cons_zero, List.set_cons_succ, Nat.zero_add, Nat.reduceAdd]
     go_simp
     exact ⟨Below.refl _ _, rfl⟩
    case ros17 =>
     intro v W hE hd
     cases r12
     ·(try simp [deps, waitsOn, Region.binds, knowing, isV, ownsV, anyV] at hd); simp only [putAll, List.take_succ_cons, List.take_zero, List.drop_succ_cons, List.drop_zero, Act.put, List.setIfInBounds_toArray, List.set_cons_zero, List.set_cons_succ, Nat.zero_add, Nat.reduceAdd]; rw [if_pos (by simp [Region.wanted, yielded, hd])]
      go_simp
      exact ⟨Below.refl _ _, rfl⟩
     ·(try simp [deps, waitsOn, Region.binds, knowing, isV, ownsV, anyV] at hd); simp only [putAll, List.take_succ_cons, List.take_zero, List.drop_succ_cons, List.drop_zero, Act.put, List.setIfInBounds_toArray, List.set_cons_zero, List.set_cons_succ, Nat.zero_add, Nat.reduceAdd]; rw [if_neg (by simp [Region.wanted, yielded, hd, undef])]; exact rfl
    case ros18 =>
     intro v W hE hd
     cases r12
     ·(try simp [deps, waitsOn, Region.binds, knowing, isV, ownsV, anyV] at hd); simp only [putAll, List.take_succ_cons, List.take_zero, List.drop_succ_cons, List.drop_zero, Act.put, List.setIfInBounds_toArray, List.set_cons_zero, List.set_cons_succ, Nat.zero_add, Nat.reduceAdd]; rw [if_pos (by simp [Region.wanted, yielded, hd])]
      go_simp
      exact ⟨Below.refl _ _, rfl⟩
     ·(try simp [deps, waitsOn, Region.binds, knowing, isV, ownsV, anyV] at hd); simp only [putAll, List.take_succ_cons, List.take_zero, List.drop_succ_cons, List.drop_zero, Act.put, List.setIfInBounds_toArray, List.set_cons_zero, List.set_cons_succ, Nat.zero_add, Nat.reduceAdd]; rw [if_neg (by simp [Region.wanted, yielded, hd, undef])]; exact rfl
    case ros19 =>
     intro v W hE hd
     cases r12
     ·(try simp [deps, waitsOn, Region.binds, knowing, isV, ownsV, anyV] at hd); simp only [putAll, List.take_succ_cons, List.take_zero, List.drop_succ_cons, List.drop_zero, Act.put, List.setIfInBounds_toArray, List.set_cons_zero, List.set_cons_succ, Nat.zero_add, Nat.reduceAdd]; rw [if_pos (by simp [Region.wanted, yielded, hd])]
      go_simp
      exact ⟨Below.refl _ _, rfl⟩
     ·(try simp [deps, waitsOn, Region.binds, knowing, isV, ownsV, anyV] at hd); simp only [putAll, List.take_succ_cons, List.take_zero, List.drop_succ_cons, List.drop_zero, Act.put, List.setIfInBounds_toArray, List.set_cons_zero, List.set_cons_succ, Nat.zero_add, Nat.reduceAdd]; rw [if_neg (by simp [Region.wanted, yielded, hd, undef])]; exact rfl
    case ros20 =>
     intro v W hE hd
     cases r12
     ·(try simp [deps, waitsOn, Region.binds, knowing, isV, ownsV, anyV] at hd); simp only [putAll, List.take_succ_cons, List.take_zero, List.drop_succ_cons, List.drop_zero, Act.put, List.setIfInBounds_toArray, List.set_cons_zero, List.set_cons_succ, Nat.zero_add, Nat.reduceAdd]; rw [if_pos (by simp [Region.wanted, yielded, hd])]
      go_simp
      exact ⟨Below.refl _ _, rfl⟩
     ·(try simp [deps, waitsOn, Region.binds, knowing, isV, ownsV, anyV] at hd); simp only [putAll, List.take_succ_cons, List.take_zero, List.drop_succ_cons, List.drop_zero, Act.put, List.setIfInBounds_toArray, List.set_cons_zero, List.set_cons_succ, Nat.zero_add, Nat.reduceAdd]; rw [if_neg (by simp [Region.wanted, yielded, hd, undef])]; exact rfl
    case ros21 =>
     intro v W hE hd
     cases r12
     ·(try simp [deps, waitsOn, Region.binds, knowing, isV, ownsV, anyV] at hd); simp only [putAll, List.take_succ_cons, List.take_zero, List.drop_succ_cons, List.drop_zero, Act.put, List.setIfInBounds_toArray, List.set_cons_zero, List.set_cons_succ, Nat.zero_add, Nat.reduceAdd]; rw [if_pos (by simp [Region.wanted, yielded, hd])]
      have e1 := cell_below hE Fv.out
      go_simp
      exact ⟨Below.refl _ _, rfl⟩
     ·(try simp [deps, waitsOn, Region.binds, knowing, isV, ownsV, anyV] at hd); simp only [putAll, List.take_succ_cons, List.take_zero, List.drop_succ_cons, List.drop_zero, Act.put, List.setIfInBounds_toArray, List.set_cons_zero, List.set_cons_succ, Nat.zero_add, Nat.reduceAdd]; rw [if_neg (by simp [Region.wanted, yielded, hd, undef])]; exact rfl
    case ros22 =>
     intro v W hE hd
     cases r12
     ·(try simp [deps, waitsOn, Region.binds, knowing, isV, ownsV, anyV] at hd); simp only [putAll, List.take_succ_cons, List.take_zero, List.drop_succ_cons, List.drop_zero, Act.put, List.setIfInBounds_toArray, List.set_cons_zero, List.set_cons_succ, Nat.zero_add, Nat.reduceAdd]; rw [if_pos (by simp [Region.wanted, yielded, hd])]
      go_simp
      refine (refFits_at _ W).mono ?_
      rintro x w' ⟨rfl, rfl⟩
      rw [Hfb.out]
      go_simp
      exact ⟨Below.refl _ _, rfl⟩
     ·(try simp [deps, waitsOn, Region.binds, knowing, isV, ownsV, anyV] at hd); simp only [putAll, List.take_succ_cons, List.take_zero, List.drop_succ_cons, List.drop_zero, Act.put, List.setIfInBounds_toArray, List.set_cons_zero, List.set_cons_succ, Nat.zero_add, Nat.reduceAdd]; rw [if_neg (by simp [Region.wanted, yielded, hd, undef])]; exact rfl
    case ros23 =>
     intro v W hE hd
     cases r12
     ·(try simp [deps, waitsOn, Region.binds, knowing, isV, ownsV, anyV] at hd); simp only [putAll, List.take_succ_cons, List.take_zero, List.drop_succ_cons, List.drop_zero, Act.put, List.setIfInBounds_toArray, List.set_cons_zero, List.set_cons_succ, Nat.zero_add, Nat.reduceAdd]; rw [if_pos (by simp [Region.wanted, yielded, hd])]
      go_simp
      exact ⟨Below.refl _ _, rfl⟩
     ·(try simp [deps, waitsOn, Region.binds, knowing, isV, ownsV, anyV] at hd); simp only [putAll, List.take_succ_cons, List.take_zero, List.drop_succ_cons, List.drop_zero, Act.put, List.setIfInBounds_toArray, List.set_cons_zero, List.set_cons_succ, Nat.zero_add, Nat.reduceAdd]; rw [if_neg (by simp [Region.wanted, yielded, hd, undef])]; exact rfl
    case ros24 =>
     intro v W hE hd; simp only [Region.wanted, ↓reduceIte]; (try simp [deps, waitsOn, Region.binds, knowing, isV, ownsV, anyV] at hd); simp only [putAll, List.take_succ_cons, List.take_zero, List.drop_succ_cons, List.drop_zero, Act.put, List.setIfInBounds_toArray, List.set_cons_zero, List.set_cons_succ, Nat.zero_add, Nat.reduceAdd]
     rw [H18.out]
     cases r12 <;> cases fb
     all_goals
      simp only [cond_true, cond_false] at hd
      go_simp
      exact ⟨Below.refl _ _, rfl⟩
    case ros25 =>
     intro v W hE hd; simp only [Region.wanted, ↓reduceIte]; (try simp [deps, waitsOn, Region.binds, knowing, isV, ownsV, anyV] at hd); simp only [putAll, List.take_succ_cons, List.take_zero, List.drop_succ_cons, List.drop_zero, Act.put, List.setIfInBounds_toArray, List.set_cons_zero, List.set_cons_succ, Nat.zero_add, Nat.reduceAdd]
     go_simp
     exact ⟨Below.refl _ _, rfl⟩
    case ros26 =>
     intro v W hE hd
     cases r18
     ·(try simp [deps, waitsOn, Region.binds, knowing, isV, ownsV, anyV] at hd); simp only [putAll, List.take_succ_cons, List.take_zero, List.drop_succ_cons, List.drop_zero, Act.put, List.setIfInBounds_toArray, List.set_cons_zero, List.set_cons_succ, Nat.zero_add, Nat.reduceAdd]; rw [if_pos (by simp [Region.wanted, yielded, hd])]
      go_simp
      exact ⟨Below.refl _ _, rfl⟩
     ·(try simp [deps, waitsOn, Region.binds, knowing, isV, ownsV, anyV] at hd); simp only [putAll, List.take_succ_cons, List.take_zero, List.drop_succ_cons, List.drop_zero, Act.put, List.setIfInBounds_toArray, List.set_cons_zero, List.set_cons_succ, Nat.zero_add, Nat.reduceAdd]; rw [if_neg (by simp [Region.wanted, yielded, hd, undef])]; exact rfl
    case ros27 =>
     intro v W hE hd
     cases r18
     ·(try simp [deps, waitsOn, Region.binds, knowing, isV, ownsV, anyV] at hd); simp only [putAll, List.take_succ_cons, List.take_zero, List.drop_succ_cons, List.drop_zero, Act.put, List.setIfInBounds_toArray, List.set_cons_zero, List.set_cons_succ, Nat.zero_add, Nat.reduceAdd]; rw [if_pos (by simp [Region.wanted, yielded, hd])]
      go_simp
      exact ⟨Below.refl _ _, rfl⟩
     ·(try simp [deps, waitsOn, Region.binds, knowing, isV, ownsV, anyV] at hd); simp only [putAll, List.take_succ_cons, List.take_zero, List.drop_succ_cons, List.drop_zero, Act.put, List.setIfInBounds_toArray, List.set_cons_zero, List.set_cons_succ, Nat.zero_add, Nat.reduceAdd]; rw [if_neg (by simp [Region.wanted, yielded, hd, undef])]; exact rfl
    case ros28 =>
     intro v W hE hd
     cases r18
     ·(try simp [deps, waitsOn, Region.binds, knowing, isV, ownsV, anyV] at hd); simp only [putAll, List.take_succ_cons, List.take_zero, List.drop_succ_cons, List.drop_zero, Act.put, List.setIfInBounds_toArray, List.set_cons_zero, List.set_cons_succ, Nat.zero_add, Nat.reduceAdd]; rw [if_pos (by simp [Region.wanted, yielded, hd])]
      go_simp
      exact ⟨Below.refl _ _, rfl⟩
     ·(try simp [deps, waitsOn, Region.binds, knowing, isV, ownsV, anyV] at hd); simp only [putAll, List.take_succ_cons, List.take_zero, List.drop_succ_cons, List.drop_zero, Act.put, List.setIfInBounds_toArray, List.set_cons_zero, List.set_cons_succ, Nat.zero_add, Nat.reduceAdd]; rw [if_neg (by simp [Region.wanted, yielded, hd, undef])]; exact rfl
    case ros29 =>
     intro v W hE hd
     cases r18
     ·(try simp [deps, waitsOn, Region.binds, knowing, isV, ownsV, anyV] at hd); simp only [putAll, List.take_succ_cons, List.take_zero, List.drop_succ_cons, List.drop_zero, Act.put, List.setIfInBounds_toArray, List.set_cons_zero, List.set_cons_succ, Nat.zero_add, Nat.reduceAdd]; rw [if_pos (by simp [Region.wanted, yielded, hd])]
      go_simp
      exact ⟨Below.refl _ _, rfl⟩
     ·(try simp [deps, waitsOn, Region.binds, knowing, isV, ownsV, anyV] at hd); simp only [putAll, List.take_succ_cons, List.take_zero, List.drop_succ_cons, List.drop_zero, Act.put, List.setIfInBounds_toArray, List.set_cons_zero, List.set_cons_succ, Nat.zero_add, Nat.reduceAdd]; rw [if_neg (by simp [Region.wanted, yielded, hd, undef])]; exact rfl
    case ros30 =>
     intro v W hE hd
     cases r18
     ·(try simp [deps, waitsOn, Region.binds, knowing, isV, ownsV, anyV] at hd); simp only [putAll, List.take_succ_cons, List.take_zero, List.drop_succ_cons, List.drop_zero, Act.put, List.setIfInBounds_toArray, List.set_cons_zero, List.set_cons_succ, Nat.zero_add, Nat.reduceAdd]; rw [if_pos (by simp [Region.wanted, yielded, hd])]
      have e1 := cell_below hE Fv.out
      go_simp
      exact ⟨Below.refl _ _, rfl⟩
     ·(try simp [deps, waitsOn, Region.binds, knowing, isV, ownsV, anyV] at hd); simp only [putAll, List.take_succ_cons, List.take_zero, List.drop_succ_cons, List.drop_zero, Act.put, List.setIfInBounds_toArray, List.set_cons_zero, List.set_cons_succ, Nat.zero_add, Nat.reduceAdd]; rw [if_neg (by simp [Region.wanted, yielded, hd, undef])]; exact rfl
    case ros31 =>
     intro v W hE hd
     cases r18
     ·(try simp [deps, waitsOn, Region.binds, knowing, isV, ownsV, anyV] at hd); simp only [putAll, List.take_succ_cons, List.take_zero, List.drop_succ_cons, List.drop_zero, Act.put, List.setIfInBounds_toArray, List.set_cons_zero, List.set_cons_succ, Nat.zero_add, Nat.reduceAdd]; rw [if_pos (by simp [Region.wanted, yielded, hd])]
      have hz := HZZ.out
      go_simp
      exact ⟨Below.refl _ _, rfl⟩
     ·(try simp [deps, waitsOn, Region.binds, knowing, isV, ownsV, anyV] at hd); simp only [putAll, List.take_succ_cons, List.take_zero, List.drop_succ_cons, List.drop_zero, Act.put, List.setIfInBounds_toArray, List.set_cons_zero, List.set_cons_succ, Nat.zero_add, Nat.reduceAdd]; rw [if_neg (by simp [Region.wanted, yielded, hd, undef])]; exact rfl
    case ros32 =>
     intro v W hE hd
     cases r18
     ·(try simp [deps, waitsOn, Region.binds, knowing, isV, ownsV, anyV] at hd); simp only [putAll, List.take_succ_cons, List.take_zero, List.drop_succ_cons, List.drop_zero, Act.put, List.setIfInBounds_toArray, List.set_cons_zero, List.set_cons_succ, Nat.zero_add, Nat.reduceAdd]; rw [if_pos (by simp [Region.wanted, yielded, hd])]
      go_simp
      exact ⟨Below.refl _ _, rfl⟩
     ·(try simp [deps, waitsOn, Region.binds, knowing, isV, ownsV, anyV] at hd); simp only [putAll, List.take_succ_cons, List.take_zero, List.drop_succ_cons, List.drop_zero, Act.put, List.setIfInBounds_toArray, List.set_cons_zero, List.set_cons_succ, Nat.zero_add, Nat.reduceAdd]; rw [if_neg (by simp [Region.wanted, yielded, hd, undef])]; exact rfl
    case ros33 =>
     intro v W hE hd
     rw [H23.out] at *
     cases r18 <;> cases zb
     ·(try simp [deps, waitsOn, Region.binds, knowing, isV, ownsV, anyV] at hd); simp only [putAll, List.take_succ_cons, List.take_zero, List.drop_succ_cons, List.drop_zero, Act.put, List.setIfInBounds_toArray, List.set_cons_zero, List.set_cons_succ, Nat.zero_add, Nat.reduceAdd]; rw [if_neg (by simp [Region.wanted, yielded, hd, undef])]; exact rfl
     ·(try simp [deps, waitsOn, Region.binds, knowing, isV, ownsV, anyV] at hd); simp only [putAll, List.take_succ_cons, List.take_zero, List.drop_succ_cons, List.drop_zero, Act.put, List.setIfInBounds_toArray, List.set_cons_zero, List.set_cons_succ, Nat.zero_add, Nat.reduceAdd]; rw [if_pos (by simp [Region.wanted, yielded, hd])]
      go_simp
      exact ⟨Below.refl _ _, rfl⟩
     ·(try simp [deps, waitsOn, Region.binds, knowing, isV, ownsV, anyV] at hd); simp only [putAll, List.take_succ_cons, List.take_zero, List.drop_succ_cons, List.drop_zero, Act.put, List.setIfInBounds_toArray, List.set_cons_zero, List.set_cons_succ, Nat.zero_add, Nat.reduceAdd]; rw [if_neg (by simp [Region.wanted, yielded, hd, undef])]; exact rfl
     ·(try simp [deps, waitsOn, Region.binds, knowing, isV, ownsV, anyV] at hd); simp only [putAll, List.take_succ_cons, List.take_zero, List.drop_succ_cons, List.drop_zero, Act.put, List.setIfInBounds_toArray, List.set_cons_zero, List.set_cons_succ, Nat.zero_add, Nat.reduceAdd]; rw [if_neg (by simp [Region.wanted, yielded, hd, undef])]; exact rfl
    case ros34 =>
     intro v W hE hd
     rw [H23.out] at *
     cases r18 <;> cases zb
     ·(try simp [deps, waitsOn, Region.binds, knowing, isV, ownsV, anyV] at hd); simp only [putAll, List.take_succ_cons, List.take_zero, List.drop_succ_cons, List.drop_zero, Act.put, List.setIfInBounds_toArray, List.set_cons_zero, List.set_cons_succ, Nat.zero_add, Nat.reduceAdd]; rw [if_neg (by simp [Region.wanted, yielded, hd, undef])]; exact rfl
     ·(try simp [deps, waitsOn, Region.binds, knowing, isV, ownsV, anyV] at hd); simp only [putAll, List.take_succ_cons, List.take_zero, List.drop_succ_cons, List.drop_zero, Act.put, List.setIfInBounds_toArray, List.set_cons_zero, List.set_cons_succ, Nat.zero_add, Nat.reduceAdd]; rw [if_pos (by simp [Region.wanted, yielded, hd])]
      go_simp
      exact ⟨Below.refl _ _, rfl⟩
     ·(try simp [deps, waitsOn, Region.binds, knowing, isV, ownsV, anyV] at hd); simp only [putAll, List.take_succ_cons, List.take_zero, List.drop_succ_cons, List.drop_zero, Act.put, List.setIfInBounds_toArray, List.set_cons_zero, List.set_cons_succ, Nat.zero_add, Nat.reduceAdd]; rw [if_neg (by simp [Region.wanted, yielded, hd, undef])]; exact rfl
     ·(try simp [deps, waitsOn, Region.binds, knowing, isV, ownsV, anyV] at hd); simp only [putAll, List.take_succ_cons, List.take_zero, List.drop_succ_cons, List.drop_zero, Act.put, List.setIfInBounds_toArray, List.set_cons_zero, List.set_cons_succ, Nat.zero_add, Nat.reduceAdd]; rw [if_neg (by simp [Region.wanted, yielded, hd, undef])]; exact rfl
    case ros35 =>
     intro v W hE hd
     rw [H23.out] at *
     cases r18 <;> cases zb
     ·(try simp [deps, waitsOn, Region.binds, knowing, isV, ownsV, anyV] at hd); simp only [putAll, List.take_succ_cons, List.take_zero, List.drop_succ_cons, List.drop_zero, Act.put, List.setIfInBounds_toArray, List.set_cons_zero, List.set_cons_succ, Nat.zero_add, Nat.reduceAdd]; rw [if_neg (by simp [Region.wanted, yielded, hd, undef])]; exact rfl
     ·(try simp [deps, waitsOn, Region.binds, knowing, isV, ownsV, anyV] at hd); simp only [putAll, List.take_succ_cons, List.take_zero, List.drop_succ_cons, List.drop_zero, Act.put, List.setIfInBounds_toArray, List.set_cons_zero, List.set_cons_succ, Nat.zero_add, Nat.reduceAdd]; rw [if_pos (by simp [Region.wanted, yielded, hd])]
      go_simp
      exact ⟨Below.refl _ _, rfl⟩
     ·(try simp [deps, waitsOn, Region.binds, knowing, isV, ownsV, anyV] at hd); simp only [putAll, List.take_succ_cons, List.take_zero, List.drop_succ_cons, List.drop_zero, Act.put, List.setIfInBounds_toArray, List.set_cons_zero, List.set_cons_succ, Nat.zero_add, Nat.reduceAdd]; rw [if_neg (by simp [Region.wanted, yielded, hd, undef])]; exact rfl
     ·(try simp [deps, waitsOn, Region.binds, knowing, isV, ownsV, anyV] at hd); simp only [putAll, List.take_succ_cons, List.take_zero, List.drop_succ_cons, List.drop_zero, Act.put, List.setIfInBounds_toArray, List.set_cons_zero, List.set_cons_succ, Nat.zero_add, Nat.reduceAdd]; rw [if_neg (by simp [Region.wanted, yielded, hd, undef])]; exact rfl
    case ros36 =>
     intro v W hE hd
     rw [H23.out] at *
     cases r18 <;> cases zb
     ·(try simp [deps, waitsOn, Region.binds, knowing, isV, ownsV, anyV] at hd); simp only [putAll, List.take_succ_cons, List.take_zero, List.drop_succ_cons, List.drop_zero, Act.put, List.setIfInBounds_toArray, List.set_cons_zero, List.set_cons_succ, Nat.zero_add, Nat.reduceAdd]; rw [if_neg (by simp [Region.wanted, yielded, hd, undef])]; exact rfl
     ·(try simp [deps, waitsOn, Region.binds, knowing, isV, ownsV, anyV] at hd); simp only [putAll, List.take_succ_cons, List.take_zero, List.drop_succ_cons, List.drop_zero, Act.put, List.setIfInBounds_toArray, List.set_cons_zero, List.set_cons_succ, Nat.zero_add, Nat.reduceAdd]; rw [if_pos (by simp [Region.wanted, yielded, hd])]
      go_simp
      exact ⟨Below.refl _ _, rfl⟩
     ·(try simp [deps, waitsOn, Region.binds, knowing, isV, ownsV, anyV] at hd); simp only [putAll, List.take_succ_cons, List.take_zero, List.drop_succ_cons, List.drop_zero, Act.put, List.setIfInBounds_toArray, List.set_cons_zero, List.set_cons_succ, Nat.zero_add, Nat.reduceAdd]; rw [if_neg (by simp [Region.wanted, yielded, hd, undef])]; exact rfl
     ·(try simp [deps, waitsOn, Region.binds, knowing, isV, ownsV, anyV] at hd); simp only [putAll, List.take_succ_cons, List.take_zero, List.drop_succ_cons, List.drop_zero, Act.put, List.setIfInBounds_toArray, List.set_cons_zero, List.set_cons_succ, Nat.zero_add, Nat.reduceAdd]; rw [if_neg (by simp [Region.wanted, yielded, hd, undef])]; exact rfl
    case ros37 =>
     intro v W hE hd
     rw [H23.out] at *
     cases r18 <;> cases zb
     ·(try simp [deps, waitsOn, Region.binds, knowing, isV, ownsV, anyV] at hd); simp only [putAll, List.take_succ_cons, List.take_zero, List.drop_succ_cons, List.drop_zero, Act.put, List.setIfInBounds_toArray, List.set_cons_zero, List.set_cons_succ, Nat.zero_add, Nat.reduceAdd]; rw [if_neg (by simp [Region.wanted, yielded, hd, undef])]; exact rfl
     ·(try simp [deps, waitsOn, Region.binds, knowing, isV, ownsV, anyV] at hd); simp only [putAll, List.take_succ_cons, List.take_zero, List.drop_succ_cons, List.drop_zero, Act.put, List.setIfInBounds_toArray, List.set_cons_zero, List.set_cons_succ, Nat.zero_add, Nat.reduceAdd]; rw [if_pos (by simp [Region.wanted, yielded, hd])]
      have e1 := cell_below hE Kc.out
      go_simp
      exact ⟨Below.refl _ _, rfl⟩
     ·(try simp [deps, waitsOn, Region.binds, knowing, isV, ownsV, anyV] at hd); simp only [putAll, List.take_succ_cons, List.take_zero, List.drop_succ_cons, List.drop_zero, Act.put, List.setIfInBounds_toArray, List.set_cons_zero, List.set_cons_succ, Nat.zero_add, Nat.reduceAdd]; rw [if_neg (by simp [Region.wanted, yielded, hd, undef])]; exact rfl
     ·(try simp [deps, waitsOn, Region.binds, knowing, isV, ownsV, anyV] at hd); simp only [putAll, List.take_succ_cons, List.take_zero, List.drop_succ_cons, List.drop_zero, Act.put, List.setIfInBounds_toArray, List.set_cons_zero, List.set_cons_succ, Nat.zero_add, Nat.reduceAdd]; rw [if_neg (by simp [Region.wanted, yielded, hd, undef])]; exact rfl
    case ros38 =>
     intro v W hE hd
     rw [H23.out] at *
     cases r18 <;> cases zb
     ·(try simp [deps, waitsOn, Region.binds, knowing, isV, ownsV, anyV] at hd); simp only [putAll, List.take_succ_cons, List.take_zero, List.drop_succ_cons, List.drop_zero, Act.put, List.setIfInBounds_toArray, List.set_cons_zero, List.set_cons_succ, Nat.zero_add, Nat.reduceAdd]; rw [if_neg (by simp [Region.wanted, yielded, hd, undef])]; exact rfl
     ·(try simp [deps, waitsOn, Region.binds, knowing, isV, ownsV, anyV] at hd); simp only [putAll, List.take_succ_cons, List.take_zero, List.drop_succ_cons, List.drop_zero, Act.put, List.setIfInBounds_toArray, List.set_cons_zero, List.set_cons_succ, Nat.zero_add, Nat.reduceAdd]; rw [if_pos (by simp [Region.wanted, yielded, hd])]
      have hkk := HKK.out
      go_simp
      exact ⟨Below.refl _ _, rfl⟩
     ·(try simp [deps, waitsOn, Region.binds, knowing, isV, ownsV, anyV] at hd); simp only [putAll, List.take_succ_cons, List.take_zero, List.drop_succ_cons, List.drop_zero, Act.put, List.setIfInBounds_toArray, List.set_cons_zero, List.set_cons_succ, Nat.zero_add, Nat.reduceAdd]; rw [if_neg (by simp [Region.wanted, yielded, hd, undef])]; exact rfl
     ·(try simp [deps, waitsOn, Region.binds, knowing, isV, ownsV, anyV] at hd); simp only [putAll, List.take_succ_cons, List.take_zero, List.drop_succ_cons, List.drop_zero, Act.put, List.setIfInBounds_toArray, List.set_cons_zero, List.set_cons_succ, Nat.zero_add, Nat.reduceAdd]; rw [if_neg (by simp [Region.wanted, yielded, hd, undef])]; exact rfl
    case ros39 =>
     intro v W hE hd
     rw [H27.out, H23.out] at *
     cases r18
     ·cases zb <;> cases kb
      all_goals
       (try simp [deps, waitsOn, Region.binds, knowing, isV, ownsV, anyV] at hd); simp only [putAll, List.take_succ_cons, List.take_zero, List.drop_succ_cons, List.drop_zero, Act.put, List.setIfInBounds_toArray, List.set_cons_zero, List.set_cons_succ, Nat.zero_add, Nat.reduceAdd]; rw [if_pos (by simp [Region.wanted, yielded, hd])]
       go_simp
       exact ⟨Below.refl _ _, rfl⟩
     ·(try simp [deps, waitsOn, Region.binds, knowing, isV, ownsV, anyV] at hd); simp only [putAll, List.take_succ_cons, List.take_zero, List.drop_succ_cons, List.drop_zero, Act.put, List.setIfInBounds_toArray, List.set_cons_zero, List.set_cons_succ, Nat.zero_add, Nat.reduceAdd]; rw [if_neg (by simp [Region.wanted, yielded, hd, undef])]; exact rfl
    case ros40 =>
     intro v W hE hd; simp only [Region.wanted, ↓reduceIte]; (try simp [deps, waitsOn, Region.binds, knowing, isV, ownsV, anyV] at hd); simp only [putAll, List.take_succ_cons, List.take_zero, List.drop_succ_cons, List.drop_zero, Act.put, List.setIfInBounds_toArray, List.set_cons_zero, List.set_cons_succ, Nat.zero_add, Nat.reduceAdd]
     rw [H28.out]
     cases r18 <;> cases r27
     all_goals
      simp only [cond_true, cond_false] at hd
      go_simp
      exact ⟨Below.refl _ _, rfl⟩
   ·rintro v W9 hE ⟨-, -, -, -, -, -, -, -, -, -, -, -, -, -, -, -, -, -, -, -, -, -, -, -, -, -, -, -, -, -, -, -, -, -, -, -, -, -, -, -, e40, -⟩
    have e40 := (show v 40 = _ from e40)
    simp only [putAll, List.take_succ_cons, List.take_zero, List.drop_succ_cons, List.drop_zero, Act.put, List.setIfInBounds_toArray, List.set_cons_zero, List.set_cons_succ, Nat.zero_add, Nat.reduceAdd]
    rw [e40]
    have HE9 := hid (HEr.out.trans' hE)
    clear e40 hE
    cases r28
    ·have Hnext := hid (show ∀ j, j < k + 1 → badE df l j = false from fun j hj => (HNk.out j hj).elim (fun e => by subst e; exact Hbk.out) (HN.out j))
     go_wp2_with fail
     go_roundw
     case rel => exact ⟨k + 1, by omega, by go_num, HE9, Hnext⟩
     case measure => simp [intOf]; omega
    ·have hr := hid (okE_no hkx Hbk.out)
     go_wp2
     go_ret
     exact HNO.out W9 HE9.out hr.out
  ·obtain rfl : k = n := by omega
   have hlt' : ¬ ((k : Int) < (k : Int)) := by omega
   have hr := hid (okE_yes fun j hj => HN.out j (by have := hn.out; omega))
   have HSr := hid (HSt.out.ext HEr.out)
   have hE0 := ext_alloc wr (.cells #[] 150)
   have HA0 := hid (OwnK.empty (R := REnt) (e := 150) (K := Out S w) wr w.heap.size HEr.out.size)
   have HB0 := hid (HEr.out.trans' hE0)
   have HLx := hid (show ∃ cs, Rows REnt (wr.alloc (.cells #[] 150)) (Out S w) l cs ∧ RV (wr.alloc (.cells #[] 150)) A cs from by
    have h1 := HL.out.ext fun k hk => HB0.out.block k hk.1
    obtain ⟨_, _, _, cs, h2, h3⟩ := h1
    refine ⟨cs, h2, ?_⟩
    rcases h3 with h3 | ⟨b, o, e, -, h3⟩
    ·exact .inl h3
    ·exact .inr ⟨b, o, e, h3⟩)
   have hszx := HEr.out.size
   have hkl : k < 1000000 := by have := hn.out; have := Hlen.out; omega
   clear hE0
   go_wp2_with (at_builtin; refine wpList_appK (w0 := w) (R := REnt) (xs := []) (base := w.heap.size) entinfo rfl (.tmp 54) (.tmp 55) rfl rfl HA0 (fun _ h => h.1) HB0 (by simp; omega) A k c l rfl hn HLx (by simp; omega) (by simp; omega) ?_; intro v2 W2 HA2 HB2 _; have HSr := hid (HSt.out.ext HB2.out); obtain ⟨_, _, _, _, -, -, -, c3, -, -, fz⟩ := HSr.out.cells; obtain ⟨A2, c2, hA2, hL2⟩ := ownK_out HA2.out (fun k hk => ⟨Nat.lt_of_lt_of_le hk.1 HB2.out.size, hk.2⟩) hSlt; subst hA2)
   go_ret
   have hfin := HSr.out.setL hL2
   have e1 : (([] : Ents) ++ l).length = l.length := rfl
   refine ⟨by rw [loadE_ok hr.out]; rfl, ?_, ?_⟩
   ·rw [loadF_ok hr.out]; exact hfin.1
   ·exact (Kept2.of_ext HB2.out).trans hfin.2
end Go.Proofs.YtakebdeldndaaaaGreatDoor
/- The reference's Step. -/
namespace Go.Proofs.YtakebdeldndaaaaGreatDoor
open Go Go.RowKit
set_option linter.unusedSimpArgs false
set_option linter.unusedVariables false
end Go.Proofs.YtakebdeldndaaaaGreatDoor
