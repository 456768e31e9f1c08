/- Several texts of this claim's, one behind the other. -/
import Derived.Test.YtakebdeldndaaaaGreatDoorEvx
import Derived.Lib.OwnBridge
/- slices.Clone and slices.Compact of texts; which queries' texts rise. -/
namespace Go.Proofs.YtakebdeldndaaaaGreatDoor
open Go Go.RowKit
set_option linter.unusedSimpArgs false
set_option linter.unusedVariables false
def OwnT (w : World) (base : Nat) (v : Value) (xs : List Str) : Prop := w.ownsRow base 9 1 v xs.length (xs.map strV)
theorem OwnT.read {w : World} {base : Nat} {v : Value} {xs : List Str} (h : OwnT w base v xs) (hs : ∀ s ∈ xs, Short s) : ∃ A c, v = .slice A xs.length c ∧ SlR Rep.txt w (· < w.heap.size) A xs.length c xs := by
 have h' : OwnR Rep.txt 9 w base v xs := ⟨_, h, rows_txt hs⟩
 exact h'.read
theorem clone_txt {w : World} {A : Option Addr} {n c : Nat} {xs : List Str} (h : SlR Rep.txt w (· < w.heap.size) A n c xs) (hn : n ≤ 1000000) :
  Calls Tryz.prog 197 #[.slice A n c] w fun e w' => ∃ v, e = .returned v ∧ OwnT w' w.heap.size v xs ∧ Ext w w' := by
 have hl := h.1
 cases A with
 | none =>
  have hx : xs = [] := by
   cases xs with
   | nil => rfl
   | cons x l => obtain ⟨b, o, e, -⟩ := txt_at h 0 (by simp); cases e
  subst hx
  refine (Tryz.slices_Clone_string_nil n c w).mono ?_
  rintro e w' ⟨rfl, rfl⟩
  exact ⟨_, rfl, World.ownsRow_nil _ _ _ 1, Below.refl _ _⟩
 | some a =>
  cases n with
  | zero =>
   have hx : xs = [] := List.eq_nil_of_length_eq_zero hl.symm
   subst hx
   refine (Tryz.slices_Clone_string_zero a c w).mono ?_
   rintro e w' ⟨v, rfl, ho, -, hE⟩
   exact ⟨v, rfl, ho, hE⟩
  | succ n =>
   obtain ⟨b, o, e, -⟩ := txt_at h 0 (by omega)
   obtain rfl : a = ⟨b, o, none⟩ := Option.some.inj e
   refine (Tryz.slices_Clone_string b o (n + 1) c (xs.map str) w (by simp; omega) (by omega) (fun j hj => ?_)).mono ?_
   ·have hj' : j < xs.length := by simpa using hj
    obtain ⟨b2, o2, e2, -, hc, -⟩ := txt_at h j hj'
    simp only [Option.some.injEq, Addr.mk.injEq, and_true] at e2
    obtain ⟨rfl, rfl⟩ := e2
    rw [hc]
    simp [List.getD, hj']
   ·rintro e w' ⟨v, rfl, ho, -, hE⟩
    refine ⟨v, rfl, ?_, hE⟩
    have e2 : ((xs.map str).take (n + 1)).map Value.string = xs.map strV := by
     rw [List.take_of_length_le (by simp; omega), List.map_map]; rfl
    rw [e2] at ho
    unfold OwnT
    rw [← hl]; exact ho
theorem compact_txt {w : World} {base : Nat} {v : Value} {xs : List Str} (h : OwnT w base v xs) (hb : base ≤ w.heap.size) :
  Calls Tryz.prog 191 #[v] w fun e w' => ∃ v', e = .returned v' ∧ OwnT w' base v' (Lib.compact xs) ∧ Below base w w' := by
 by_cases hv : v = .slice none 0 0
 ·subst hv
  have hx : xs = [] := by
   rcases h.2 with ⟨-, h0⟩ | ⟨g, cap, cur, e, -⟩
   ·exact List.eq_nil_of_length_eq_zero h0
   ·cases e
  subst hx
  refine (Tryz.slices_Compact_string_empty none 0 w).mono ?_
  rintro e w' ⟨rfl, rfl⟩
  exact ⟨_, rfl, World.ownsRow_nil _ _ _ 1, Below.refl _ _⟩
 ·have h' : w.ownsRow base 9 1 v xs.length (xs.map encStr) := h
  obtain ⟨g, cap, rfl, hbg, hgl, hcap, hmax, -, hH⟩ := Lib.holds_of_ownsRow h' hv
  have hle := Lib.compact_length_le xs
  refine (Tryz.slices_Compact_string g 0 cap xs w hH (by simp only [maxLen] at hmax; omega) hcap).mono ?_
  rintro e w' ⟨rfl, q, rfl⟩
  have hc := Lib.ownsRow_putRow (q := q) (k := (Lib.compact xs).length) (ys := Lib.compact xs ++ List.replicate (xs.length - (Lib.compact xs).length) []) h' (by simp; omega) hle
  rw [List.take_left] at hc
  exact ⟨_, rfl, hc, Lib.below_putRow (Below.refl _ _) hbg⟩
set_option maxRecDepth 100000 in
set_option maxHeartbeats 4000000 in
theorem rise_at {w : World} {A : Option Addr} {n c : Nat} {xs : List Str} (h : SlR Rep.txt w (· < w.heap.size) A n c xs) (hn : n ≤ 1000000) :
  Calls Tryz.prog 164 #[.slice A n c] w fun e w' => e = .returned (.bool (riseB xs)) ∧ Ext w w' := by
 have Hn := hid h.1
 have H := hid h
 clear h
 go_enter Tryz.func164, Tryz.ntmps164
 go_wp2_with fail
 refine (isSorted_at H.out).mono ?_
 rintro e w1 ⟨hE, hr⟩
 have HE := hid hE
 clear hE
 rcases hr with ⟨rfl, hr⟩ | ⟨rfl, hr⟩
 ·have Hr := hid (rise_compact hr)
  clear hr
  go_wp2_with fail
  refine (clone_txt (H.out.grow HE.out) hn).mono ?_
  rintro e w2 ⟨v, rfl, ho, hE2⟩
  have HO := hid ho
  have HE2 := hid (Ext.trans' HE.out hE2)
  have Hsz := hid hE2.size
  clear ho hE2
  go_wp2_with fail
  refine (compact_txt HO.out Hsz.out).mono ?_
  rintro e w3 ⟨v2, rfl, ho2, hB⟩
  have HE3 := hid (HE2.out.trans (hB.mono HE.out.size))
  obtain ⟨A2, c2, rfl, -⟩ := RV.own ho2
  clear ho2 hB
  generalize (Lib.compact xs).length = m at Hr ⊢
  have Hr2 := hid (show riseB xs = decide (m = n) by rw [Hr.out, Hn.out])
  clear Hr
  go_wp2
  go_ret
  exact ⟨by rw [Hr2.out]; show Ending.returned (Value.bool _) = _; congr 2; rw [Bool.eq_iff_iff, beq_iff_eq, decide_eq_true_eq]; omega, HE3.out⟩
 ·have Hr := hid hr
  clear hr
  go_wp2
  go_ret
  exact ⟨by rw [Hr.out]; rfl, HE.out⟩
end Go.Proofs.YtakebdeldndaaaaGreatDoor
/- Queries: what may be one, as the program says. -/
namespace Go.Proofs.YtakebdeldndaaaaGreatDoor
open Go Go.RowKit
set_option linter.unusedSimpArgs false
set_option linter.unusedVariables false
def encCl (W : World) (c : ClV) (v : Value) : Prop := ∃ A n a B m b, v = .agg #[.slice A n a, .slice B m b] ∧ SlR Rep.txt W (· < W.heap.size) A n a c.tags ∧ SlR Rep.txt W (· < W.heap.size) B m b c.types
def encOn (xs : List ClV) (W : World) (c : ClV) (v : Value) : Prop := encCl W c v ∧ c ∈ xs
theorem Says.on {g : Nat} {lb : Array Value} {p : ClV → Bool} {w : World} (h : Says g lb encCl p w) (xs : List ClV) : Says g lb (encOn xs) p w := fun x v W hW hx => h x v W hW hx.1
set_option maxRecDepth 100000 in
set_option maxHeartbeats 4000000 in
theorem indexFunc_cl {w : World} {A : Option Addr} {n c : Nat} {xs : List ClV} (ha : SlR RCl w (· < w.heap.size) A n c xs) (g : Nat) (lb : Array Value) (hg : Enters g) (p : ClV → Bool) (hp : Says g lb (encOn xs) p w) :
  Calls Tryz.prog 214 #[.slice A n c, .func (.func g) #[] lb] w fun e w' => e = .returned (.int .i64 (idxW p xs)) ∧ Ext w w' := by
 have hn := hid ha.1
 have hnc := ha.2.1
 have hcm := ha.2.2.1
 have HA := hid ha
 have HP := hid hp
 have hg' : ∀ args w, (callFunc g args).run Tryz.prog w = .ok (.enter g args) w := hg
 clear ha hp
 go_enter Tryz.func214, Tryz.ntmps214
 go_wp2_with fail
 go_loopw [8] (fun i wr => ∃ k : Nat, k ≤ n ∧ i = .int .i64 (k : Int) ∧ Hid (Ext w wr) ∧ Hid (∀ j (hj : j < k) (h : j < xs.length), p xs[j] = false)) (fun i _ => n - (intOf i).toNat)
 case atStart => exact ⟨0, by omega, rfl, Below.refl _ _, fun j hj => by omega⟩
 case round =>
  obtain ⟨k, hk, rfl, HE, HN⟩ := hrel
  by_cases hlt : k < n
  ·have hkx : k < xs.length := by have := hn.out; omega
   have hlt' : (k : Int) < (n : Int) := by omega
   have hk00 : ¬ ((k : Int) < 0) := by omega
   have hk0 : (0 : Int) ≤ (k : Int) := by omega
   obtain ⟨b, o, T, ta, U, ua, rfl, -, f0, f1, hT, hU⟩ := cl_at (HA.out.grow HE.out) k hkx
   have hcl := hid (HP.out xs[k] _ wr HE.out ⟨⟨_, _, _, _, _, _, rfl, hT, hU⟩, List.getElem_mem hkx⟩)
   generalize xs[k].tags.length = tl at f0 hcl
   generalize xs[k].types.length = ul at f1 hcl
   clear hT hU
   go_wp2_with fail
   refine (hcl.out).mono ?_
   rintro e w2 ⟨rfl, hE2⟩
   have HE2 := hid (HE.out.trans (hE2.mono HE.out.size))
   clear hE2
   cases hpx : p xs[k]
   ·have hn2 := hid (prefix_next HN.out hkx hpx)
    go_wp2_with fail
    go_roundw
    case rel => exact ⟨k + 1, by omega, by go_num, HE2, hn2⟩
    case measure => simp [intOf]; omega
   ·have hb := hid (idxW_some hkx hpx HN.out)
    go_wp2
    go_ret
    exact ⟨by rw [hb.out]; rfl, HE2.out⟩
  ·obtain rfl : k = n := by omega
   have hlt' : ¬ ((k : Int) < (k : Int)) := by omega
   have hb := hid (idxW_none (p := p) (xs := xs) fun j h => HN.out j (by have := hn.out; omega) h)
   go_wp2
   go_ret
   exact ⟨by rw [hb.out]; rfl, HE.out⟩
set_option maxRecDepth 100000 in
theorem containsFunc_cl {w : World} {A : Option Addr} {n c : Nat} {xs : List ClV} (ha : SlR RCl w (· < w.heap.size) A n c xs) (g : Nat) (lb : Array Value) (hg : Enters g) (p : ClV → Bool) (hp : Says g lb (encOn xs) p w) :
  Calls Tryz.prog 195 #[.slice A n c, .func (.func g) #[] lb] w fun e w' => e = .returned (.bool (xs.any p)) ∧ Ext w w' := by
 have hcc := indexFunc_cl ha g lb hg p hp
 have hany := hid (idxW_any p xs)
 clear ha hp hg
 go_enter Tryz.func195, Tryz.ntmps195
 go_wp2_with fail
 refine hcc.mono ?_
 rintro e w1 ⟨rfl, hE⟩
 have HE := hid hE
 clear hE hcc
 generalize idxW p xs = r at hany ⊢
 go_wp2
 go_ret
 exact ⟨by rw [← hany.out]; rfl, HE.out⟩
set_option maxRecDepth 100000 in
theorem some_at {w : World} {A : Option Addr} {n c : Nat} {xs : List ClV} (ha : SlR RCl w (· < w.heap.size) A n c xs) (g : Nat) (lb : Array Value) (hg : Enters g) (p : ClV → Bool) (hp : Says g lb (encOn xs) p w) :
  Calls Tryz.prog 162 #[.agg #[.slice A n c], .func (.func g) #[] lb] w fun e w' => e = .returned (.bool (xs.any p)) ∧ Ext w w' := by
 have HE := hid (ext_alloc w (.cells #[.slice A n c] 70))
 have b0 : (w.alloc (.cells #[.slice A n c] 70)).cell? ⟨w.heap.size, 0, none⟩ = some (.slice A n c) := by rw [cell_of_row _ _ _ _ _ _ (heap_alloc_last w _)]; rfl
 have hcc := containsFunc_cl (ha.grow HE.out) g lb hg p (hp.later HE.out)
 clear ha hp hg
 go_enter Tryz.func162, Tryz.ntmps162
 go_wp2_with fail
 refine hcc.mono ?_
 rintro e w1 ⟨rfl, hE⟩
 have HE1 := hid (Ext.trans' HE.out hE)
 clear hE hcc b0
 go_wp2
 go_ret
 exact ⟨rfl, HE1.out⟩
def bigC (c : ClV) : Bool := decide (4 < c.tags.length) || decide (4 < c.types.length)
def noneC (c : ClV) : Bool := c.tags.any (fun s => !tagN s) || c.types.any (fun s => !mayN s)
def riseC (c : ClV) : Bool := !riseB c.tags || !riseB c.types
def mayQ (q : List ClV) : Int := if (decide (4 < q.length) || q.any bigC) = true then 3 else if q.any noneC = true then 5 else if q.any riseC = true then 1 else 0
set_option maxRecDepth 100000 in
theorem says_big (w : World) : Says 156 #[] encCl bigC w := by
 rintro c v W hW ⟨A, n, a, B, m, b, rfl, hT, hU⟩
 have Hb := hid (show bigC c = (decide (4 < n) || decide (4 < m)) by unfold bigC; rw [hT.1, hU.1])
 clear hT hU
 have HE0 := hid (ext_alloc W (.cells #[.slice A n a, .slice B m b] 67))
 have b0 : (W.alloc (.cells #[.slice A n a, .slice B m b] 67)).cell? ⟨W.heap.size, 0, none⟩ = some (.slice A n a) := by rw [cell_of_row _ _ _ _ _ _ (heap_alloc_last W _)]; rfl
 have b1 : (W.alloc (.cells #[.slice A n a, .slice B m b] 67)).cell? ⟨W.heap.size, 1, none⟩ = some (.slice B m b) := by rw [cell_of_row _ _ _ _ _ _ (heap_alloc_last W _)]; rfl
 go_enter Tryz.func156, Tryz.ntmps156
 by_cases h1 : 4 < n
 ·have g1 : (4 : Int) < (n : Int) := by omega
  go_wp2
  go_ret
  exact ⟨by rw [Hb.out, decide_eq_true h1]; rfl, HE0.out⟩
 ·have g1 : ¬ ((4 : Int) < (n : Int)) := by omega
  by_cases h2 : 4 < m
  ·have g2 : (4 : Int) < (m : Int) := by omega
   go_wp2
   go_ret
   exact ⟨by rw [Hb.out, decide_eq_false h1, decide_eq_true h2]; first | rfl | simp [g2], HE0.out⟩
  ·have g2 : ¬ ((4 : Int) < (m : Int)) := by omega
   go_wp2
   go_ret
   exact ⟨by rw [Hb.out, decide_eq_false h1, decide_eq_false h2]; first | rfl | simp [g2], HE0.out⟩
set_option maxRecDepth 100000 in
theorem says_notag (w : World) : Says 159 #[] encTxt (fun s => !tagN s) w := by
 rintro s v W hW ⟨rfl, hs⟩
 go_enter Tryz.func159, Tryz.ntmps159
 go_wp2_with fail
 refine (mayTag_at s W hs).mono ?_
 rintro e w1 ⟨rfl, hE⟩
 have HE := hid hE
 clear hE
 go_wp2
 go_ret
 exact ⟨rfl, HE.out⟩
set_option maxRecDepth 100000 in
theorem says_noname (w : World) : Says 161 #[] encTxt (fun s => !mayN s) w := by
 rintro s v W hW ⟨rfl, hs⟩
 go_enter Tryz.func161, Tryz.ntmps161
 go_wp2_with fail
 refine (mayN_at s W).mono ?_
 rintro e w1 ⟨rfl, hE⟩
 have HE := hid hE
 clear hE
 go_wp2
 go_ret
 exact ⟨rfl, HE.out⟩
theorem enters_notag : Enters 159 := enters_of Tryz.func159 (by kernel_rfl) rfl
theorem enters_noname : Enters 161 := enters_of Tryz.func161 (by kernel_rfl) rfl
theorem enters_big : Enters 156 := enters_of Tryz.func156 (by kernel_rfl) rfl
theorem enters_none : Enters 157 := enters_of Tryz.func157 (by kernel_rfl) rfl
theorem enters_rise : Enters 163 := enters_of Tryz.func163 (by kernel_rfl) rfl
set_option maxRecDepth 100000 in
theorem says_none (w : World) : Says 157 #[] encCl noneC w := by
 rintro c v W hW ⟨A, n, a, B, m, b, rfl, hT, hU⟩
 have HT := hid hT; have HU := hid hU
 have Hb := hid (show noneC c = (c.tags.any (fun s => !tagN s) || c.types.any (fun s => !mayN s)) from rfl)
 clear hT hU
 have HE0 := hid (ext_alloc W (.cells #[.slice A n a, .slice B m b] 67))
 have b0 : (W.alloc (.cells #[.slice A n a, .slice B m b] 67)).cell? ⟨W.heap.size, 0, none⟩ = some (.slice A n a) := by rw [cell_of_row _ _ _ _ _ _ (heap_alloc_last W _)]; rfl
 have b1 : (W.alloc (.cells #[.slice A n a, .slice B m b] 67)).cell? ⟨W.heap.size, 1, none⟩ = some (.slice B m b) := by rw [cell_of_row _ _ _ _ _ _ (heap_alloc_last W _)]; rfl
 have B1 := hid b1
 go_enter Tryz.func157, Tryz.ntmps157
 go_wp2_with fail
 refine (containsFunc_txt (HT.out.grow HE0.out) _ #[] enters_notag _ (says_notag _)).mono ?_
 rintro e w1 ⟨rfl, hE⟩
 have HE1 := hid hE
 have b1' := cell_later hE B1.out
 clear hE b0 b1
 cases h1 : c.tags.any (fun s => !tagN s)
 ·go_wp2_with fail
  refine (containsFunc_txt (HU.out.grow (Ext.trans' HE0.out HE1.out)) _ #[] enters_noname _ (says_noname _)).mono ?_
  rintro e w2 ⟨rfl, hE⟩
  have HE2 := hid (Ext.trans' (Ext.trans' HE0.out HE1.out) hE)
  clear hE b1'
  go_wp2
  go_ret
  exact ⟨by rw [Hb.out, h1]; rfl, HE2.out⟩
 ·go_wp2
  go_ret
  exact ⟨by rw [Hb.out, h1]; rfl, Ext.trans' HE0.out HE1.out⟩
theorem big_lens {xs : List ClV} (h : xs.any bigC = false) {c : ClV} (hc : c ∈ xs) : c.tags.length ≤ 1000000 ∧ c.types.length ≤ 1000000 := by
 rw [List.any_eq_false] at h
 have := h c hc
 unfold bigC at this
 simp only [Bool.or_eq_true, decide_eq_true_eq, not_or] at this
 omega
set_option maxRecDepth 100000 in
theorem says_riseU (w : World) {xs : List ClV} (hbig : xs.any bigC = false) : Says 163 #[] (encOn xs) riseC w := by
 rintro c v W hW ⟨⟨A, n, a, B, m, b, rfl, hT, hU⟩, hm⟩
 obtain ⟨hl1, hl2⟩ := big_lens hbig hm
 have HT := hid hT; have HU := hid hU
 have Hb := hid (show riseC c = (!riseB c.tags || !riseB c.types) from rfl)
 have Hl1 := hid (show n ≤ 1000000 by rw [hT.1]; exact hl1)
 have Hl2 := hid (show m ≤ 1000000 by rw [hU.1]; exact hl2)
 clear hT hU hl1 hl2 hbig hm
 have HE0 := hid (ext_alloc W (.cells #[.slice A n a, .slice B m b] 67))
 have b0 : (W.alloc (.cells #[.slice A n a, .slice B m b] 67)).cell? ⟨W.heap.size, 0, none⟩ = some (.slice A n a) := by rw [cell_of_row _ _ _ _ _ _ (heap_alloc_last W _)]; rfl
 have b1 : (W.alloc (.cells #[.slice A n a, .slice B m b] 67)).cell? ⟨W.heap.size, 1, none⟩ = some (.slice B m b) := by rw [cell_of_row _ _ _ _ _ _ (heap_alloc_last W _)]; rfl
 have B1 := hid b1
 go_enter Tryz.func163, Tryz.ntmps163
 go_wp2_with fail
 refine (rise_at (HT.out.grow HE0.out) Hl1.out).mono ?_
 rintro e w1 ⟨rfl, hE⟩
 have HE1 := hid hE
 have b1' := cell_later hE B1.out
 clear hE b0 b1
 cases h1 : riseB c.tags
 ·go_wp2
  go_ret
  exact ⟨by rw [Hb.out, h1]; rfl, Ext.trans' HE0.out HE1.out⟩
 ·go_wp2_with fail
  refine (rise_at (HU.out.grow (Ext.trans' HE0.out HE1.out)) Hl2.out).mono ?_
  rintro e w2 ⟨rfl, hE⟩
  have HE2 := hid (Ext.trans' (Ext.trans' HE0.out HE1.out) hE)
  clear hE b1'
  go_wp2
  go_ret
  exact ⟨by rw [Hb.out, h1]; rfl, HE2.out⟩
set_option maxRecDepth 100000 in
set_option maxHeartbeats 4000000 in
theorem mayQ_at {w : World} {A : Option Addr} {n c : Nat} {q : List ClV} (h : SlR RCl w (· < w.heap.size) A n c q) :
  Calls Tryz.prog 124 #[.agg #[.slice A n c]] w fun e w' => e = .returned (.int .i64 (mayQ q)) ∧ Ext w w' := by
 have Hn := hid h.1
 have H := hid h
 have HE0 := hid (ext_alloc w (.cells #[.slice A n c] 70))
 have b0 : (w.alloc (.cells #[.slice A n c] 70)).cell? ⟨w.heap.size, 0, none⟩ = some (.slice A n c) := by rw [cell_of_row _ _ _ _ _ _ (heap_alloc_last w _)]; rfl
 have B0 := hid b0
 clear h
 go_enter Tryz.func124, Tryz.ntmps124
 by_cases h4 : 4 < n
 ·have g4 : (4 : Int) < (n : Int) := by omega
  have hr := hid (show mayQ q = 3 by unfold mayQ; rw [← Hn.out, decide_eq_true h4]; rfl)
  clear h4
  go_wp2
  go_ret
  exact ⟨by rw [hr.out]; rfl, HE0.out⟩
 have g4 : ¬ ((4 : Int) < (n : Int)) := by omega
 have Hq := hid (show mayQ q = if q.any bigC = true then 3 else if q.any noneC = true then 5 else if q.any riseC = true then 1 else 0 by unfold mayQ; rw [← Hn.out, decide_eq_false h4, Bool.false_or])
 clear h4
 go_wp2_with fail
 refine (some_at (H.out.grow HE0.out) _ #[] enters_big _ ((says_big _).on _)).mono ?_
 rintro e w1 ⟨rfl, hE⟩
 have HE1 := hid (Ext.trans' HE0.out hE)
 have b1 := cell_later hE B0.out
 have B1 := hid b1
 clear hE b0
 cases h1 : q.any bigC
 rotate_left
 ·have hr := hid (show mayQ q = 3 by rw [Hq.out, if_pos h1])
  go_wp2
  go_ret
  exact ⟨by rw [hr.out]; rfl, HE1.out⟩
 have Hbig := hid h1
 go_wp2_with fail
 refine (some_at (H.out.grow HE1.out) _ #[] enters_none _ ((says_none _).on _)).mono ?_
 rintro e w2 ⟨rfl, hE⟩
 have HE2 := hid (Ext.trans' HE1.out hE)
 have b2 := cell_later hE B1.out
 clear hE b1
 cases h2 : q.any noneC
 rotate_left
 ·have hr := hid (show mayQ q = 5 by rw [Hq.out, if_neg (by rw [Hbig.out]; decide), if_pos h2])
  go_wp2
  go_ret
  exact ⟨by rw [hr.out]; rfl, HE2.out⟩
 have H2 := hid h2
 go_wp2_with fail
 refine (some_at (H.out.grow HE2.out) _ #[] enters_rise _ (says_riseU _ Hbig.out)).mono ?_
 rintro e w3 ⟨rfl, hE⟩
 have HE3 := hid (Ext.trans' HE2.out hE)
 clear hE b2
 cases h3 : q.any riseC
 ·have hr := hid (show mayQ q = 0 by rw [Hq.out, if_neg (by rw [Hbig.out]; decide), if_neg (by rw [H2.out]; decide), if_neg (by rw [h3]; decide)])
  go_wp2
  go_ret
  exact ⟨by rw [hr.out]; rfl, HE3.out⟩
 ·have hr := hid (show mayQ q = 1 by rw [Hq.out, if_neg (by rw [Hbig.out]; decide), if_neg (by rw [H2.out]; decide), if_pos h3])
  go_wp2
  go_ret
  exact ⟨by rw [hr.out]; rfl, HE3.out⟩
end Go.Proofs.YtakebdeldndaaaaGreatDoor
/- Which events a query asks for: the program and the document. -/
namespace Go.Proofs.YtakebdeldndaaaaGreatDoor
open Go Go.RowKit
set_option linter.unusedSimpArgs false
set_option linter.unusedVariables false
end Go.Proofs.YtakebdeldndaaaaGreatDoor
/- Which events a query asks for, as the document says. -/
namespace Go.Proofs.YtakebdeldndaaaaGreatDoor
open Go Go.RowKit
set_option linter.unusedSimpArgs false
set_option linter.unusedVariables false
def ClBox (bx : Nat) (A : Option Addr) (n a : Nat) (B : Option Addr) (m b : Nat) (w : World) : Prop := w.heap[bx]? = some (.cells #[.slice A n a, .slice B m b] 67)
theorem ClBox.cells {bx : Nat} {A B : Option Addr} {n a m b : Nat} {w : World} (h : ClBox bx A n a B m b w) : w.cell? ⟨bx, 0, none⟩ = some (.slice A n a) ∧ w.cell? ⟨bx, 1, none⟩ = some (.slice B m b) := by
 refine ⟨?_, ?_⟩ <;> · rw [cell_of_row _ _ _ _ _ _ h]; rfl
theorem ClBox.ext {bx : Nat} {A B : Option Addr} {n a m b : Nat} {w w' : World} (h : ClBox bx A n a B m b w) (hE : Ext w w') : ClBox bx A n a B m b w' := (hE.block bx (Array.getElem?_eq_some_iff.1 h).1).trans h
end Go.Proofs.YtakebdeldndaaaaGreatDoor
