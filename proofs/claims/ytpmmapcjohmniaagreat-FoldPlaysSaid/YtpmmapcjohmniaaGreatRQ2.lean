/- Which definitions may be, as the document says. -/
import Derived.Test.YtpmmapcjohmniaaGreatRQ1
import Derived.Test.YtpmmapcjohmniaaGreatLw2
namespace Go.Proofs.YtpmmapcjohmniaaGreat
open Go Go.RowKit
set_option linter.unusedSimpArgs false
set_option linter.unusedVariables false

set_option maxRecDepth 100000 in
set_option maxHeartbeats 4000000 in
theorem refMayDef_at {w : World} {A : Option Addr} {n c : Nat} {d : DefV} (h : SlR RCl w (· < w.heap.size) A n c d.q) :
    Calls Tryz.prog 20 #[defVal d A n c] w fun e w' => e = .returned (.int .i64 (mayDef d)) ∧ Ext w w' := by
  unfold defVal
  have H := hid h
  have hst := str_toList
  clear h
  have HE0 := hid (ext_alloc w (.cells #[.int .i64 d.kind, .string (str d.field), .slice A n c] 26))
  have Hbx := hid (show DefBox w.heap.size d A n c (w.alloc (.cells #[.int .i64 d.kind, .string (str d.field), .slice A n c] 26)) from heap_alloc_last _ _)
  obtain ⟨b0, b1, b2⟩ := Hbx.out.cells
  go_enter Tryz.func20, Tryz.ntmps20
  by_cases h1 : d.kind < 1
  · have hr := hid (show mayDef d = 1 by unfold mayDef; rw [if_pos (.inl h1)])
    go_wp2
    go_ret
    exact ⟨by rw [hr.out]; rfl, HE0.out⟩
  by_cases h4 : 4 < d.kind
  · have hr := hid (show mayDef d = 1 by unfold mayDef; rw [if_pos (.inr h4)])
    go_wp2
    go_ret
    exact ⟨by rw [hr.out]; rfl, HE0.out⟩
  have Hr := hid (show mayDef d = if mayQ d.q ≠ 0 then mayQ d.q else if d.kind = 2 ∨ d.kind = 3 then (if mayN d.field = true then 0 else 5) else if d.field = [] then 0 else 5 by unfold mayDef; rw [if_neg (by omega)])
  go_wp2_with fail
  refine (refQMay_at (H.out.grow HE0.out)).mono ?_
  rintro e w1 ⟨rfl, hE⟩
  have HE1 := hid (Ext.trans' HE0.out hE)
  have Hb1 := hid (Hbx.out.ext hE)
  obtain ⟨c0, c1, c2⟩ := Hb1.out.cells
  clear hE b0 b1 b2
  by_cases hq : mayQ d.q = 0
  rotate_left
  · have hr := hid (show mayDef d = mayQ d.q by rw [Hr.out, if_pos hq])
    generalize mayQ d.q = x at hq hr ⊢
    go_wp2
    go_ret
    exact ⟨by rw [hr.out]; rfl, HE1.out⟩
  have Hr2 := hid (show mayDef d = if d.kind = 2 ∨ d.kind = 3 then (if mayN d.field = true then 0 else 5) else if d.field = [] then 0 else 5 by rw [Hr.out, if_neg (by rw [hq]; decide)])
  rw [hq]
  clear hq Hr
  go_wp2_with fail
  refine (refMayN_at d.field w1).mono ?_
  rintro e w2 ⟨rfl, hE⟩
  have HE2 := hid (Ext.trans' HE1.out hE)
  have Hb2 := hid (Hb1.out.ext hE)
  clear hE c0 c1 c2
  obtain ⟨c0, c1, c2⟩ := Hb2.out.cells
  by_cases hk : d.kind = 2 ∨ d.kind = 3
  · have Hr3 := hid (show mayDef d = if mayN d.field = true then 0 else 5 by rw [Hr2.out, if_pos hk])
    rcases hk with hk | hk
    all_goals
      rw [hk] at c0
      clear hk h1 h4
      cases hmn : mayN d.field
      · have hr := hid (show mayDef d = 5 by rw [Hr3.out, hmn]; rfl)
        go_wp2
        go_ret
        exact ⟨by rw [hr.out]; rfl, HE2.out⟩
      · have hr := hid (show mayDef d = 0 by rw [Hr3.out, hmn]; rfl)
        go_wp2
        go_ret
        exact ⟨by rw [hr.out]; rfl, HE2.out⟩
  · have Hr3 := hid (show mayDef d = if d.field = [] then 0 else 5 by rw [Hr2.out, if_neg hk])
    have k2 : (d.kind == 2) = false := beq_eq_false_iff_ne.2 fun e => hk (.inl e)
    have k3 : (d.kind == 3) = false := beq_eq_false_iff_ne.2 fun e => hk (.inr e)
    have k2' : ¬ (d.kind = 2) := fun e => hk (.inl e)
    have k3' : ¬ (d.kind = 3) := fun e => hk (.inr e)
    generalize mayN d.field = mn at *
    by_cases hf : d.field = []
    · have hr := hid (show mayDef d = 0 by rw [Hr3.out, if_pos hf])
      have hfe : (d.field == []) = true := by rw [hf]; rfl
      rw [hf] at c1
      clear hk h1 h4 hf
      go_wp2
      go_ret
      exact ⟨by rw [hr.out]; rfl, HE2.out⟩
    · have hr := hid (show mayDef d = 5 by rw [Hr3.out, if_neg hf])
      have hfe : (d.field == []) = false := beq_eq_false_iff_ne.2 hf
      clear hk h1 h4
      generalize d.field = f at c1 hfe hf
      go_wp2
      go_ret
      exact ⟨by rw [hr.out]; rfl, HE2.out⟩
/-- The reference's state: its definition, and its entries in rows of its own. -/
structure RefSt (w : World) (S : Nat → Prop) (y : Nat) (d : DefV) (D : Ents) : Prop where
  box : ∃ A c B m b, w.heap[y]? = some (.cells #[.int .i64 d.kind, .string (str d.field), .slice A d.q.length c, .slice B m b] 51) ∧ SlR RCl w (Out S w) A d.q.length c d.q ∧ SlR REnt w (Out S w) B m b D
  yIn : S y
section
variable {w w' : World} {S S' : Nat → Prop} {y a b : Nat} {d : DefV} {D D' : Ents}
theorem RefSt.lt (h : RefSt w S y d D) : y < w.heap.size := by
  obtain ⟨A, c, B, m, b, h1, -⟩ := h.box
  exact (Array.getElem?_eq_some_iff.1 h1).1
theorem RefSt.more (h : RefSt w S y d D) (hE : Ext w w') (hS : ∀ k, S' k → S k ∨ w.heap.size ≤ k) (hy : S' y) : RefSt w' S' y d D := by
  obtain ⟨A, c, B, m, b, h1, h2, h3⟩ := h.box
  exact ⟨⟨A, c, B, m, b, (hE.block y h.lt).trans h1, slR_more h2 hE hS, slR_more h3 hE hS⟩, hy⟩
theorem RefSt.ext (h : RefSt w S y d D) (hE : Ext w w') : RefSt w' S y d D := h.more hE (fun _ hk => .inl hk) h.yIn
theorem RefSt.kept (h : RefSt w S y d D) (hk : Kept2 a b w w') (ha : S a) (hb : S b) (h1 : y ≠ a) (h2 : y ≠ b) : RefSt w' S y d D := by
  obtain ⟨A, c, B, m, b', g1, g2, g3⟩ := h.box
  exact ⟨⟨A, c, B, m, b', (hk.block y h.lt h1 h2).trans g1, slR_kept g2 hk ha hb, slR_kept g3 hk ha hb⟩, h.yIn⟩
end
set_option maxRecDepth 100000 in
set_option maxHeartbeats 4000000 in
theorem refNew_at {w : World} {n0 : Nat} {A : Option Addr} {n c : Nat} {d : DefV} (h : SlR RCl w (· < n0) A n c d.q) (hn0 : n0 ≤ w.heap.size) :
    Calls Tryz.prog 6 #[defVal d A n c] w fun e w' => Ext w w' ∧ ((mayDef d ≠ 0 ∧ e = .returned (.tuple #[.pointer none, .int .i64 (mayDef d)])) ∨
      (mayDef d = 0 ∧ ∃ y, e = .returned (.tuple #[.pointer (some ⟨y, 0, none⟩), .int .i64 0]) ∧ w.heap.size ≤ y ∧ (∀ S : Nat → Prop, (∀ k, S k → n0 ≤ k) → S y → RefSt w' S y d []))) := by
  have hv := hid (show defVal d A n c = .agg #[.int .i64 d.kind, .string (str d.field), .slice A n c] from rfl)
  rw [hv.out]
  have H := hid h
  clear h
  have HE0 := hid (ext_alloc w (.cells #[.int .i64 d.kind, .string (str d.field), .slice A n c] 26))
  have Hbx := hid (show DefBox w.heap.size d A n c (w.alloc (.cells #[.int .i64 d.kind, .string (str d.field), .slice A n c] 26)) from heap_alloc_last _ _)
  obtain ⟨b0, b1, b2⟩ := Hbx.out.cells
  have hmd := refMayDef_at ((H.out.mono fun k hk => Nat.lt_of_lt_of_le hk hn0).grow HE0.out)
  rw [hv.out] at hmd
  go_enter Tryz.func6, Tryz.ntmps6
  go_wp2_with fail
  refine hmd.mono ?_
  rintro e w1 ⟨rfl, hE⟩
  have HE1 := hid (Ext.trans' HE0.out hE)
  have Hb1 := hid (Hbx.out.ext hE)
  clear hE hmd b0 b1 b2
  by_cases hm : mayDef d = 0
  rotate_left
  · have Hm := hid hm
    have hx : (mayDef d != 0) = true := by simpa using hm
    have hx2 : (mayDef d == 0) = false := by simpa using hm
    clear hm
    go_wp2
    go_ret2
    exact ⟨HE1.out, .inl ⟨Hm.out, rfl⟩⟩
  · have Hm := hid hm
    rw [hm]
    have hn := H.out.1
    subst hn
    obtain ⟨c0, c1, c2⟩ := Hb1.out.cells
    clear hm
    have HE2 := hid (Ext.trans' HE1.out (ext_alloc w1 (.cells #[.int .i64 d.kind, .string (str d.field), .slice A d.q.length c, .slice none 0 0] 51)))
    have HR := hid (show ∀ S : Nat → Prop, (∀ k, S k → n0 ≤ k) → S w1.heap.size → RefSt (w1.alloc (.cells #[.int .i64 d.kind, .string (str d.field), .slice A d.q.length c, .slice none 0 0] 51)) S w1.heap.size d [] from fun S hS hy =>
      ⟨⟨A, c, none, 0, 0, heap_alloc_last _ _, (H.out.ext fun k hk => HE2.out.block k (Nat.lt_of_lt_of_le hk hn0)).mono fun k hk => ⟨Nat.lt_of_lt_of_le hk (Nat.le_trans hn0 HE2.out.size), fun h => by have := hS k h; omega⟩, slR_nil _ _⟩, hy⟩)
    have hsz := HE1.out.size
    go_wp2
    go_ret2
    exact ⟨HE2.out, .inr ⟨Hm.out, _, rfl, hsz, HR.out⟩⟩
end Go.Proofs.YtpmmapcjohmniaaGreat
