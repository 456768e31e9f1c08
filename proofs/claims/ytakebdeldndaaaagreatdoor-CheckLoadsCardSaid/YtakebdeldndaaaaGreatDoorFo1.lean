/- A projection's state in memory; what a definition may be; its kind. -/
import Derived.Test.YtakebdeldndaaaaGreatDoorNorms
import Derived.Test.YtakebdeldndaaaaGreatDoorMapI
namespace Go.Proofs.YtakebdeldndaaaaGreatDoor
open Go Go.RowKit
set_option linter.unusedSimpArgs false
set_option linter.unusedVariables false
def mayDef (d : DefV) : Int := if d.kind < 1 ∨ 4 < d.kind then 1 else if mayQ d.q ≠ 0 then mayQ d.q else if d.kind = 2 ∨ d.kind = 3 then (if mayN d.field = true then 0 else 5) else if d.field = [] then 0 else 5
def kdVal (d : DefV) : Value := if d.kind = 2 then .iface 215 (.agg #[.string (str d.field)]) else if d.kind = 3 then .iface 216 (.agg #[.string (str d.field)]) else if d.kind = 4 then .iface 218 (.agg #[]) else .iface 219 (.agg #[])
def defVal (d : DefV) (A : Option Addr) (n c : Nat) : Value := .agg #[.int .i64 d.kind, .string (str d.field), .slice A n c]
def DefBox (bx : Nat) (d : DefV) (A : Option Addr) (n c : Nat) (w : World) : Prop := w.heap[bx]? = some (.cells #[.int .i64 d.kind, .string (str d.field), .slice A n c] 72)
theorem DefBox.cells {bx : Nat} {d : DefV} {A : Option Addr} {n c : Nat} {w : World} (h : DefBox bx d A n c w) : w.cell? ⟨bx, 0, none⟩ = some (.int .i64 d.kind) ∧ w.cell? ⟨bx, 1, none⟩ = some (.string (str d.field)) ∧ w.cell? ⟨bx, 2, none⟩ = some (.slice A n c) := by
 refine ⟨?_, ?_, ?_⟩ <;> · rw [cell_of_row _ _ _ _ _ _ h]; rfl
theorem DefBox.ext {bx : Nat} {d : DefV} {A : Option Addr} {n c : Nat} {w w' : World} (h : DefBox bx d A n c w) (hE : Ext w w') : DefBox bx d A n c w' := (hE.block bx (Array.getElem?_eq_some_iff.1 h).1).trans h
set_option maxRecDepth 100000 in
set_option maxHeartbeats 4000000 in
theorem mayDef_at {w : World} {A : Option Addr} {n c : Nat} {d : DefV} (h : SlR RCl w (· < w.heap.size) A n c d.q) :
  Calls Tryz.prog 83 #[defVal d A n c] w fun e w' => e = .returned (.int .i64 (mayDef d)) ∧ Ext w w' := by
 unfold defVal
 have H := hid h
 have hst := str_toList
 clear h
 have HE0 := hid (ext_alloc w (.cells #[.int .i64 d.kind, .string (str d.field), .slice A n c] 72))
 have Hbx := hid (show DefBox w.heap.size d A n c (w.alloc (.cells #[.int .i64 d.kind, .string (str d.field), .slice A n c] 72)) from heap_alloc_last _ _)
 obtain ⟨b0, b1, b2⟩ := Hbx.out.cells
 go_enter Tryz.func83, Tryz.ntmps83
 by_cases h1 : d.kind < 1
 ·have hr := hid (show mayDef d = 1 by unfold mayDef; rw [if_pos (.inl h1)])
  go_wp2
  go_ret
  exact ⟨by rw [hr.out]; rfl, HE0.out⟩
 by_cases h4 : 4 < d.kind
 ·have hr := hid (show mayDef d = 1 by unfold mayDef; rw [if_pos (.inr h4)])
  go_wp2
  go_ret
  exact ⟨by rw [hr.out]; rfl, HE0.out⟩
 have Hr := hid (show mayDef d = if mayQ d.q ≠ 0 then mayQ d.q else if d.kind = 2 ∨ d.kind = 3 then (if mayN d.field = true then 0 else 5) else if d.field = [] then 0 else 5 by unfold mayDef; rw [if_neg (by omega)])
 go_wp2_with fail
 refine (mayQ_at (H.out.grow HE0.out)).mono ?_
 rintro e w1 ⟨rfl, hE⟩
 have HE1 := hid (Ext.trans' HE0.out hE)
 obtain ⟨c0, c1, c2⟩ := (Hbx.out.ext hE).cells
 clear hE b0 b1 b2
 by_cases hq : mayQ d.q = 0
 rotate_left
 ·have hr := hid (show mayDef d = mayQ d.q by rw [Hr.out, if_pos hq])
  generalize mayQ d.q = x at hq hr ⊢
  go_wp2
  go_ret
  exact ⟨by rw [hr.out]; rfl, HE1.out⟩
 have Hr2 := hid (show mayDef d = if d.kind = 2 ∨ d.kind = 3 then (if mayN d.field = true then 0 else 5) else if d.field = [] then 0 else 5 by rw [Hr.out, if_neg (by rw [hq]; decide)])
 rw [hq]
 clear hq Hr
 by_cases hk : d.kind = 2 ∨ d.kind = 3
 ·have Hr3 := hid (show mayDef d = if mayN d.field = true then 0 else 5 by rw [Hr2.out, if_pos hk])
  rcases hk with hk | hk
  all_goals
   have hk2 : (d.kind == 2) = decide (d.kind = 2) := rfl
   rw [hk] at c0
   clear hk hk2 h1 h4
   go_wp2_with fail
   refine (mayN_at d.field w1).mono ?_
   rintro e w2 ⟨rfl, hE⟩
   have HE2 := hid (Ext.trans' HE1.out hE)
   clear hE c0 c1 c2
   cases hmn : mayN d.field
   ·have hr := hid (show mayDef d = 5 by rw [Hr3.out, hmn]; rfl)
    go_wp2
    go_ret
    exact ⟨by rw [hr.out]; rfl, HE2.out⟩
   ·have hr := hid (show mayDef d = 0 by rw [Hr3.out, hmn]; rfl)
    go_wp2
    go_ret
    exact ⟨by rw [hr.out]; rfl, HE2.out⟩
 ·have Hr3 := hid (show mayDef d = if d.field = [] then 0 else 5 by rw [Hr2.out, if_neg hk])
  have k2 : (d.kind == 2) = false := beq_eq_false_iff_ne.2 fun e => hk (.inl e)
  have k3 : (d.kind == 3) = false := beq_eq_false_iff_ne.2 fun e => hk (.inr e)
  by_cases hf : d.field = []
  ·have hr := hid (show mayDef d = 0 by rw [Hr3.out, if_pos hf])
   have hfe : (d.field == []) = true := by rw [hf]; rfl
   rw [hf] at c1
   clear hk h1 h4 hf
   go_wp2
   go_ret
   exact ⟨by rw [hr.out]; rfl, HE1.out⟩
  ·have hr := hid (show mayDef d = 5 by rw [Hr3.out, if_neg hf])
   have hfe : (d.field == []) = false := beq_eq_false_iff_ne.2 hf
   clear hk h1 h4
   generalize d.field = f at c1 hfe hf
   go_wp2
   go_ret
   exact ⟨by rw [hr.out]; rfl, HE1.out⟩
set_option maxRecDepth 100000 in
set_option maxHeartbeats 4000000 in
theorem folders_at {w : World} {A : Option Addr} {n c : Nat} {d : DefV} :
  Calls Tryz.prog 122 #[defVal d A n c] w fun e w' => e = .returned (kdVal d) ∧ Ext w w' := by
 unfold defVal
 have HE0 := hid (ext_alloc w (.cells #[.int .i64 d.kind, .string (str d.field), .slice A n c] 72))
 have Hbx := hid (show DefBox w.heap.size d A n c (w.alloc (.cells #[.int .i64 d.kind, .string (str d.field), .slice A n c] 72)) from heap_alloc_last _ _)
 obtain ⟨b0, b1, b2⟩ := Hbx.out.cells
 go_enter Tryz.func122, Tryz.ntmps122
 by_cases h2 : d.kind = 2
 ·have hr := hid (show kdVal d = .iface 215 (.agg #[.string (str d.field)]) by unfold kdVal; rw [if_pos h2])
  rw [h2] at b0
  go_wp2
  go_ret
  exact ⟨by rw [hr.out]; rfl, ext_alloc _ _⟩
 by_cases h3 : d.kind = 3
 ·have hr := hid (show kdVal d = .iface 216 (.agg #[.string (str d.field)]) by unfold kdVal; rw [if_neg h2, if_pos h3])
  rw [h3] at b0
  go_wp2
  go_ret
  exact ⟨by rw [hr.out]; rfl, ext_alloc _ _⟩
 by_cases h4 : d.kind = 4
 ·have hr := hid (show kdVal d = .iface 218 (.agg #[]) by unfold kdVal; rw [if_neg h2, if_neg h3, if_pos h4])
  rw [h4] at b0
  go_wp2
  go_ret
  exact ⟨by rw [hr.out]; rfl, ext_alloc _ _⟩
 ·have hr := hid (show kdVal d = .iface 219 (.agg #[]) by unfold kdVal; rw [if_neg h2, if_neg h3, if_neg h4])
  have k2 : (d.kind == 2) = false := beq_eq_false_iff_ne.2 h2
  have k3 : (d.kind == 3) = false := beq_eq_false_iff_ne.2 h3
  have k4 : (d.kind == 4) = false := beq_eq_false_iff_ne.2 h4
  generalize d.kind = kd at *
  go_wp2
  go_ret
  exact ⟨by rw [hr.out]; rfl, ext_alloc _ _⟩
end Go.Proofs.YtakebdeldndaaaaGreatDoor
