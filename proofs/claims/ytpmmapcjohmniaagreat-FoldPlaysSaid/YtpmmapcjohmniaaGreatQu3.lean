/- Which events a query asks for: the program and the document. -/
import Derived.Test.YtpmmapcjohmniaaGreatQu2
namespace Go.Proofs.YtpmmapcjohmniaaGreat
open Go Go.RowKit
set_option linter.unusedSimpArgs false
set_option linter.unusedVariables false

def clauseB (e : EvV) (c : ClV) : Bool := !(c.tags.any fun s => !hasT e.tags s) && (decide (c.types.length = 0) || c.types.any (e.ty == ·))
def matchQ (q : List ClV) (e : EvV) : Bool := q.any (clauseB e)
set_option maxRecDepth 100000 in
theorem says_without {w : World} {bx : Nat} {A B : Option Addr} {n c m d : Nat} {e : EvV} (hb : EvBox bx A n c B m d e w) (h : EvIn w A n c B m d e) : Says 43 #[.pointer (some ⟨bx, 0, none⟩)] encTxt (fun s => !hasT e.tags s) w := by
  rintro s v W hW ⟨rfl, hs⟩
  have H := hid (h.grow hW)
  have Hb := hid (hb.ext hW)
  clear h hb hW
  obtain ⟨b0, b1, b2, b3⟩ := Hb.out.cells
  have hv := hid (show evVal A n c B m d e = .agg #[.string (str e.st), .string (str e.ty), .slice A n c, .slice B m d] from rfl)
  have hcc := has_at H.out s
  rw [hv.out] at hcc
  go_enter Tryz.func43, Tryz.ntmps43
  go_wp2_with fail
  refine hcc.mono ?_
  rintro x w1 ⟨rfl, hE⟩
  have HE := hid hE
  clear hE hcc b0 b1 b2 b3
  go_wp2
  go_ret
  exact ⟨rfl, HE.out⟩
theorem enters_without : Enters 43 := enters_of Tryz.func43 (by kernel_rfl) rfl
theorem enters_clause : Enters 42 := enters_of Tryz.func42 (by kernel_rfl) rfl
set_option maxRecDepth 100000 in
set_option maxHeartbeats 4000000 in
theorem says_clause {w : World} {bx : Nat} {A' B' : Option Addr} {n' c' m' d' : Nat} {e : EvV} (hb : EvBox bx A' n' c' B' m' d' e w) (h : EvIn w A' n' c' B' m' d' e) : Says 42 #[.pointer (some ⟨bx, 0, none⟩)] encCl (clauseB e) w := by
  rintro c v W hW ⟨A, n, a, B, m, b, rfl, hT, hU⟩
  have H := hid (h.grow hW)
  have Hb := hid (hb.ext hW)
  have HT := hid hT; have HU := hid hU
  have Hc := hid (show clauseB e c = (!(c.tags.any fun s => !hasT e.tags s) && (decide (m = 0) || c.types.any (e.ty == ·))) by unfold clauseB; rw [hU.1])
  clear h hb hW hT hU
  have HE0 := hid (ext_alloc W (.cells #[.slice A n a, .slice B m b] 80))
  have b0 : (W.alloc (.cells #[.slice A n a, .slice B m b] 80)).cell? ⟨W.heap.size, 0, none⟩ = some (.slice A n a) := by rw [cell_of_row _ _ _ _ _ _ (heap_alloc_last W _)]; rfl
  have b1 : (W.alloc (.cells #[.slice A n a, .slice B m b] 80)).cell? ⟨W.heap.size, 1, none⟩ = some (.slice B m b) := by rw [cell_of_row _ _ _ _ _ _ (heap_alloc_last W _)]; rfl
  have B1 := hid b1
  go_enter Tryz.func42, Tryz.ntmps42
  go_wp2_with fail
  refine (containsFunc_txt (HT.out.grow HE0.out) _ _ enters_without _ (says_without (Hb.out.ext HE0.out) (H.out.grow HE0.out))).mono ?_
  rintro x w1 ⟨rfl, hE⟩
  have HE1 := hid (Ext.trans' HE0.out hE)
  have b1' := cell_later hE B1.out
  clear hE b0 b1
  cases h1 : c.tags.any (fun s => !hasT e.tags s)
  rotate_left
  · have hr := hid (show clauseB e c = false by rw [Hc.out, h1]; rfl)
    go_wp2
    go_ret
    exact ⟨by rw [hr.out]; rfl, HE1.out⟩
  have Hc2 := hid (show clauseB e c = (decide (m = 0) || c.types.any (e.ty == ·)) by rw [Hc.out, h1]; rfl)
  by_cases h2 : m = 0
  · subst h2
    have hr := hid (show clauseB e c = true by rw [Hc2.out]; rfl)
    go_wp2
    go_ret
    exact ⟨by rw [hr.out]; rfl, HE1.out⟩
  · have g2 : ((m : Int) == 0) = false := beq_eq_false_iff_ne.2 (by omega)
    have hr := hid (show clauseB e c = c.types.any (e.ty == ·) by rw [Hc2.out, decide_eq_false h2]; rfl)
    obtain ⟨e0, e1, e2, e3⟩ := (Hb.out.ext HE1.out).cells
    have E1 := hid e1
    clear e0 e2 e3 e1 h2
    have e1 := E1.out
    go_wp2_with fail
    refine (contains_txt (HU.out.grow HE1.out) e.ty).mono ?_
    rintro x w' ⟨rfl, rfl⟩
    clear b1' e1
    generalize c.types.any (e.ty == ·) = r at hr ⊢
    go_wp2
    go_ret
    exact ⟨by rw [hr.out]; rfl, HE1.out⟩
set_option maxRecDepth 100000 in
set_option maxHeartbeats 4000000 in
theorem match_at {w : World} {Aq : Option Addr} {nq cq : Nat} {q : List ClV} (hq : SlR RCl w (· < w.heap.size) Aq nq cq q) {A B : Option Addr} {n c m d : Nat} {e : EvV} (h : EvIn w A n c B m d e) :
    Calls Tryz.prog 26 #[.agg #[.slice Aq nq cq], evVal A n c B m d e] w fun x w' => x = .returned (.bool (matchQ q e)) ∧ Ext w w' := by
  unfold evVal
  have Hq := hid hq; have H := hid h
  have HEq := hid (ext_alloc w (.cells #[.slice Aq nq cq] 24))
  have b0 : (w.alloc (.cells #[.slice Aq nq cq] 24)).cell? ⟨w.heap.size, 0, none⟩ = some (.slice Aq nq cq) := by rw [cell_of_row _ _ _ _ _ _ (heap_alloc_last w _)]; rfl
  have HE0 := hid (ext_alloc (w.alloc (.cells #[.slice Aq nq cq] 24)) (.cells #[.string (str e.st), .string (str e.ty), .slice A n c, .slice B m d] 45))
  have Hbx := hid (show EvBox (w.alloc (.cells #[.slice Aq nq cq] 24)).heap.size A n c B m d e ((w.alloc (.cells #[.slice Aq nq cq] 24)).alloc (.cells #[.string (str e.st), .string (str e.ty), .slice A n c, .slice B m d] 45)) from heap_alloc_last _ _)
  have b0' := cell_later HE0.out b0
  have hsz : (w.alloc (.cells #[.slice Aq nq cq] 24)).heap.size = w.heap.size + 1 := by simp
  clear hq h b0
  go_enter Tryz.func26, Tryz.ntmps26
  go_wp2_with fail
  have HEE := hid (Ext.trans' HEq.out HE0.out)
  rw [hsz] at Hbx
  refine (some_at (Hq.out.grow HEE.out) _ _ enters_clause _ ((says_clause Hbx.out (H.out.grow HEE.out)).on _)).mono ?_
  rintro x w1 ⟨rfl, hE⟩
  have HE1 := hid (Ext.trans' HEE.out hE)
  have hr := hid (show matchQ q e = q.any (clauseB e) from rfl)
  clear hE b0'
  go_wp2
  go_ret
  exact ⟨by rw [hr.out]; rfl, HE1.out⟩
end Go.Proofs.YtpmmapcjohmniaaGreat
