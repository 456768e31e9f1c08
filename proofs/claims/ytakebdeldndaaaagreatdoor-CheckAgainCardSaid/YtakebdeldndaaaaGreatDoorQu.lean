/- Several texts of this claim's, one behind the other. -/
import Derived.Test.YtakebdeldndaaaaGreatDoorEvx
import Derived.Lib.OwnBridge
/- slices.Clone and slices.Compact of texts; which queries' texts rise. -/
namespace Go.Proofs.YtakebdeldndaaaaGreatDoor
open Go Go.RowKit
set_option linter.unusedSimpArgs false
set_option linter.unusedVariables false

def OwnT (w : World) (base : Nat) (v : Value) (xs : List Str) : Prop := w.ownsRow base 9 1 v xs.length (xs.map strV)
theorem OwnT.read {w : World} {base : Nat} {v : Value} {xs : List Str} (h : OwnT w base v xs) (hs : ∀ s ∈ xs, Short s) : ∃ A c, v = .slice A xs.length c ∧ SlR Rep.txt w (· < w.heap.size) A xs.length c xs := by
  have h' : OwnR Rep.txt 9 w base v xs := ⟨_, h, rows_txt hs⟩
  exact h'.read
theorem clone_txt {w : World} {A : Option Addr} {n c : Nat} {xs : List Str} (h : SlR Rep.txt w (· < w.heap.size) A n c xs) (hn : n ≤ 1000000) :
    Calls Tryz.prog 197 #[.slice A n c] w fun e w' => ∃ v, e = .returned v ∧ OwnT w' w.heap.size v xs ∧ Ext w w' := by
  have hl := h.1
  cases A with
  | none =>
    have hx : xs = [] := by
      cases xs with
      | nil => rfl
      | cons x l => obtain ⟨b, o, e, -⟩ := txt_at h 0 (by simp); cases e
    subst hx
    refine (Tryz.slices_Clone_string_nil n c w).mono ?_
    rintro e w' ⟨rfl, rfl⟩
    exact ⟨_, rfl, World.ownsRow_nil _ _ _ 1, Below.refl _ _⟩
  | some a =>
    cases n with
    | zero =>
      have hx : xs = [] := List.eq_nil_of_length_eq_zero hl.symm
      subst hx
      refine (Tryz.slices_Clone_string_zero a c w).mono ?_
      rintro e w' ⟨v, rfl, ho, -, hE⟩
      exact ⟨v, rfl, ho, hE⟩
    | succ n =>
      obtain ⟨b, o, e, -⟩ := txt_at h 0 (by omega)
      obtain rfl : a = ⟨b, o, none⟩ := Option.some.inj e
      refine (Tryz.slices_Clone_string b o (n + 1) c (xs.map str) w (by simp; omega) (by omega) (fun j hj => ?_)).mono ?_
      · have hj' : j < xs.length := by simpa using hj
        obtain ⟨b2, o2, e2, -, hc, -⟩ := txt_at h j hj'
        simp only [Option.some.injEq, Addr.mk.injEq, and_true] at e2
        obtain ⟨rfl, rfl⟩ := e2
        rw [hc]
        simp [List.getD, hj']
      · rintro e w' ⟨v, rfl, ho, -, hE⟩
        refine ⟨v, rfl, ?_, hE⟩
        have e2 : ((xs.map str).take (n + 1)).map Value.string = xs.map strV := by
          rw [List.take_of_length_le (by simp; omega), List.map_map]; rfl
        rw [e2] at ho
        unfold OwnT
        rw [← hl]; exact ho
theorem compact_txt {w : World} {base : Nat} {v : Value} {xs : List Str} (h : OwnT w base v xs) (hb : base ≤ w.heap.size) :
    Calls Tryz.prog 191 #[v] w fun e w' => ∃ v', e = .returned v' ∧ OwnT w' base v' (Lib.compact xs) ∧ Below base w w' := by
  by_cases hv : v = .slice none 0 0
  · subst hv
    have hx : xs = [] := by
      rcases h.2 with ⟨-, h0⟩ | ⟨g, cap, cur, e, -⟩
      · exact List.eq_nil_of_length_eq_zero h0
      · cases e
    subst hx
    refine (Tryz.slices_Compact_string_empty none 0 w).mono ?_
    rintro e w' ⟨rfl, rfl⟩
    exact ⟨_, rfl, World.ownsRow_nil _ _ _ 1, Below.refl _ _⟩
  · have h' : w.ownsRow base 9 1 v xs.length (xs.map encStr) := h
    obtain ⟨g, cap, rfl, hbg, hgl, hcap, hmax, -, hH⟩ := Lib.holds_of_ownsRow h' hv
    have hle := Lib.compact_length_le xs
    refine (Tryz.slices_Compact_string g 0 cap xs w hH (by simp only [maxLen] at hmax; omega) hcap).mono ?_
    rintro e w' ⟨rfl, q, rfl⟩
    have hc := Lib.ownsRow_putRow (q := q) (k := (Lib.compact xs).length) (ys := Lib.compact xs ++ List.replicate (xs.length - (Lib.compact xs).length) []) h' (by simp; omega) hle
    rw [List.take_left] at hc
    exact ⟨_, rfl, hc, Lib.below_putRow (Below.refl _ _) hbg⟩
set_option maxRecDepth 100000 in
set_option maxHeartbeats 4000000 in
theorem rise_at {w : World} {A : Option Addr} {n c : Nat} {xs : List Str} (h : SlR Rep.txt w (· < w.heap.size) A n c xs) (hn : n ≤ 1000000) :
    Calls Tryz.prog 164 #[.slice A n c] w fun e w' => e = .returned (.bool (riseB xs)) ∧ Ext w w' := by
  have Hn := hid h.1
  have H := hid h
  clear h
  go_enter Tryz.func164, Tryz.ntmps164
  go_wp2_with fail
  refine (isSorted_at H.out).mono ?_
  rintro e w1 ⟨hE, hr⟩
  have HE := hid hE
  clear hE
  rcases hr with ⟨rfl, hr⟩ | ⟨rfl, hr⟩
  · have Hr := hid (rise_compact hr)
    clear hr
    go_wp2_with fail
    refine (clone_txt (H.out.grow HE.out) hn).mono ?_
    rintro e w2 ⟨v, rfl, ho, hE2⟩
    have HO := hid ho
    have HE2 := hid (Ext.trans' HE.out hE2)
    have Hsz := hid hE2.size
    clear ho hE2
    go_wp2_with fail
    refine (compact_txt HO.out Hsz.out).mono ?_
    rintro e w3 ⟨v2, rfl, ho2, hB⟩
    have HE3 := hid (HE2.out.trans (hB.mono HE.out.size))
    obtain ⟨A2, c2, rfl, -⟩ := RV.own ho2
    clear ho2 hB
    generalize (Lib.compact xs).length = m at Hr ⊢
    have Hr2 := hid (show riseB xs = decide (m = n) by rw [Hr.out, Hn.out])
    clear Hr
    go_wp2
    go_ret
    exact ⟨by rw [Hr2.out]; show Ending.returned (Value.bool _) = _; congr 2; rw [Bool.eq_iff_iff, beq_iff_eq, decide_eq_true_eq]; omega, HE3.out⟩
  · have Hr := hid hr
    clear hr
    go_wp2
    go_ret
    exact ⟨by rw [Hr.out]; rfl, HE.out⟩
end Go.Proofs.YtakebdeldndaaaaGreatDoor

/- Queries: what may be one, as the program says. -/
namespace Go.Proofs.YtakebdeldndaaaaGreatDoor
open Go Go.RowKit
set_option linter.unusedSimpArgs false
set_option linter.unusedVariables false

def encCl (W : World) (c : ClV) (v : Value) : Prop := ∃ A n a B m b, v = .agg #[.slice A n a, .slice B m b] ∧ SlR Rep.txt W (· < W.heap.size) A n a c.tags ∧ SlR Rep.txt W (· < W.heap.size) B m b c.types
def encOn (xs : List ClV) (W : World) (c : ClV) (v : Value) : Prop := encCl W c v ∧ c ∈ xs
theorem Says.on {g : Nat} {lb : Array Value} {p : ClV → Bool} {w : World} (h : Says g lb encCl p w) (xs : List ClV) : Says g lb (encOn xs) p w := fun x v W hW hx => h x v W hW hx.1
set_option maxRecDepth 100000 in
set_option maxHeartbeats 4000000 in
theorem indexFunc_cl {w : World} {A : Option Addr} {n c : Nat} {xs : List ClV} (ha : SlR RCl w (· < w.heap.size) A n c xs) (g : Nat) (lb : Array Value) (hg : Enters g) (p : ClV → Bool) (hp : Says g lb (encOn xs) p w) :
    Calls Tryz.prog 214 #[.slice A n c, .func (.func g) #[] lb] w fun e w' => e = .returned (.int .i64 (idxW p xs)) ∧ Ext w w' := by
  have hn := hid ha.1
  have hnc := ha.2.1
  have hcm := ha.2.2.1
  have HA := hid ha
  have HP := hid hp
  have hg' : ∀ args w, (callFunc g args).run Tryz.prog w = .ok (.enter g args) w := hg
  clear ha hp
  go_enter Tryz.func214, Tryz.ntmps214
  go_wp2_with fail
  go_loopw [8] (fun i wr => ∃ k : Nat, k ≤ n ∧ i = .int .i64 (k : Int) ∧ Hid (Ext w wr) ∧ Hid (∀ j (hj : j < k) (h : j < xs.length), p xs[j] = false)) (fun i _ => n - (intOf i).toNat)
  case atStart => exact ⟨0, by omega, rfl, Below.refl _ _, fun j hj => by omega⟩
  case round =>
    obtain ⟨k, hk, rfl, HE, HN⟩ := hrel
    by_cases hlt : k < n
    · have hkx : k < xs.length := by have := hn.out; omega
      have hlt' : (k : Int) < (n : Int) := by omega
      have hk00 : ¬ ((k : Int) < 0) := by omega
      have hk0 : (0 : Int) ≤ (k : Int) := by omega
      obtain ⟨b, o, T, ta, U, ua, rfl, -, f0, f1, hT, hU⟩ := cl_at (HA.out.grow HE.out) k hkx
      have hcl := hid (HP.out xs[k] _ wr HE.out ⟨⟨_, _, _, _, _, _, rfl, hT, hU⟩, List.getElem_mem hkx⟩)
      generalize xs[k].tags.length = tl at f0 hcl
      generalize xs[k].types.length = ul at f1 hcl
      clear hT hU
      go_wp2_with fail
      refine (hcl.out).mono ?_
      rintro e w2 ⟨rfl, hE2⟩
      have HE2 := hid (HE.out.trans (hE2.mono HE.out.size))
      clear hE2
      cases hpx : p xs[k]
      · have hn2 := hid (prefix_next HN.out hkx hpx)
        go_wp2_with fail
        go_roundw
        case rel => exact ⟨k + 1, by omega, by go_num, HE2, hn2⟩
        case measure => simp [intOf]; omega
      · have hb := hid (idxW_some hkx hpx HN.out)
        go_wp2
        go_ret
        exact ⟨by rw [hb.out]; rfl, HE2.out⟩
    · obtain rfl : k = n := by omega
      have hlt' : ¬ ((k : Int) < (k : Int)) := by omega
      have hb := hid (idxW_none (p := p) (xs := xs) fun j h => HN.out j (by have := hn.out; omega) h)
      go_wp2
      go_ret
      exact ⟨by rw [hb.out]; rfl, HE.out⟩
set_option maxRecDepth 100000 in
theorem containsFunc_cl {w : World} {A : Option Addr} {n c : Nat} {xs : List ClV} (ha : SlR RCl w (· < w.heap.size) A n c xs) (g : Nat) (lb : Array Value) (hg : Enters g) (p : ClV → Bool) (hp : Says g lb (encOn xs) p w) :
    Calls Tryz.prog 195 #[.slice A n c, .func (.func g) #[] lb] w fun e w' => e = .returned (.bool (xs.any p)) ∧ Ext w w' := by
  have hcc := indexFunc_cl ha g lb hg p hp
  have hany := hid (idxW_any p xs)
  clear ha hp hg
  go_enter Tryz.func195, Tryz.ntmps195
  go_wp2_with fail
  refine hcc.mono ?_
  rintro e w1 ⟨rfl, hE⟩
  have HE := hid hE
  clear hE hcc
  generalize idxW p xs = r at hany ⊢
  go_wp2
  go_ret
  exact ⟨by rw [← hany.out]; rfl, HE.out⟩
set_option maxRecDepth 100000 in
theorem some_at {w : World} {A : Option Addr} {n c : Nat} {xs : List ClV} (ha : SlR RCl w (· < w.heap.size) A n c xs) (g : Nat) (lb : Array Value) (hg : Enters g) (p : ClV → Bool) (hp : Says g lb (encOn xs) p w) :
    Calls Tryz.prog 162 #[.agg #[.slice A n c], .func (.func g) #[] lb] w fun e w' => e = .returned (.bool (xs.any p)) ∧ Ext w w' := by
  have HE := hid (ext_alloc w (.cells #[.slice A n c] 70))
  have b0 : (w.alloc (.cells #[.slice A n c] 70)).cell? ⟨w.heap.size, 0, none⟩ = some (.slice A n c) := by rw [cell_of_row _ _ _ _ _ _ (heap_alloc_last w _)]; rfl
  have hcc := containsFunc_cl (ha.grow HE.out) g lb hg p (hp.later HE.out)
  clear ha hp hg
  go_enter Tryz.func162, Tryz.ntmps162
  go_wp2_with fail
  refine hcc.mono ?_
  rintro e w1 ⟨rfl, hE⟩
  have HE1 := hid (Ext.trans' HE.out hE)
  clear hE hcc b0
  go_wp2
  go_ret
  exact ⟨rfl, HE1.out⟩
def bigC (c : ClV) : Bool := decide (4 < c.tags.length) || decide (4 < c.types.length)
def noneC (c : ClV) : Bool := c.tags.any (fun s => !tagN s) || c.types.any (fun s => !mayN s)
def riseC (c : ClV) : Bool := !riseB c.tags || !riseB c.types
def mayQ (q : List ClV) : Int := if (decide (4 < q.length) || q.any bigC) = true then 3 else if q.any noneC = true then 5 else if q.any riseC = true then 1 else 0
set_option maxRecDepth 100000 in
theorem says_big (w : World) : Says 156 #[] encCl bigC w := by
  rintro c v W hW ⟨A, n, a, B, m, b, rfl, hT, hU⟩
  have Hb := hid (show bigC c = (decide (4 < n) || decide (4 < m)) by unfold bigC; rw [hT.1, hU.1])
  clear hT hU
  have HE0 := hid (ext_alloc W (.cells #[.slice A n a, .slice B m b] 67))
  have b0 : (W.alloc (.cells #[.slice A n a, .slice B m b] 67)).cell? ⟨W.heap.size, 0, none⟩ = some (.slice A n a) := by rw [cell_of_row _ _ _ _ _ _ (heap_alloc_last W _)]; rfl
  have b1 : (W.alloc (.cells #[.slice A n a, .slice B m b] 67)).cell? ⟨W.heap.size, 1, none⟩ = some (.slice B m b) := by rw [cell_of_row _ _ _ _ _ _ (heap_alloc_last W _)]; rfl
  go_enter Tryz.func156, Tryz.ntmps156
  by_cases h1 : 4 < n
  · have g1 : (4 : Int) < (n : Int) := by omega
    go_wp2
    go_ret
    exact ⟨by rw [Hb.out, decide_eq_true h1]; rfl, HE0.out⟩
  · have g1 : ¬ ((4 : Int) < (n : Int)) := by omega
    by_cases h2 : 4 < m
    · have g2 : (4 : Int) < (m : Int) := by omega
      go_wp2
      go_ret
      exact ⟨by rw [Hb.out, decide_eq_false h1, decide_eq_true h2]; first | rfl | simp [g2], HE0.out⟩
    · have g2 : ¬ ((4 : Int) < (m : Int)) := by omega
      go_wp2
      go_ret
      exact ⟨by rw [Hb.out, decide_eq_false h1, decide_eq_false h2]; first | rfl | simp [g2], HE0.out⟩
set_option maxRecDepth 100000 in
theorem says_notag (w : World) : Says 159 #[] encTxt (fun s => !tagN s) w := by
  rintro s v W hW ⟨rfl, hs⟩
  go_enter Tryz.func159, Tryz.ntmps159
  go_wp2_with fail
  refine (mayTag_at s W hs).mono ?_
  rintro e w1 ⟨rfl, hE⟩
  have HE := hid hE
  clear hE
  go_wp2
  go_ret
  exact ⟨rfl, HE.out⟩
set_option maxRecDepth 100000 in
theorem says_noname (w : World) : Says 161 #[] encTxt (fun s => !mayN s) w := by
  rintro s v W hW ⟨rfl, hs⟩
  go_enter Tryz.func161, Tryz.ntmps161
  go_wp2_with fail
  refine (mayN_at s W).mono ?_
  rintro e w1 ⟨rfl, hE⟩
  have HE := hid hE
  clear hE
  go_wp2
  go_ret
  exact ⟨rfl, HE.out⟩
theorem enters_notag : Enters 159 := enters_of Tryz.func159 (by kernel_rfl) rfl
theorem enters_noname : Enters 161 := enters_of Tryz.func161 (by kernel_rfl) rfl
theorem enters_big : Enters 156 := enters_of Tryz.func156 (by kernel_rfl) rfl
theorem enters_none : Enters 157 := enters_of Tryz.func157 (by kernel_rfl) rfl
theorem enters_rise : Enters 163 := enters_of Tryz.func163 (by kernel_rfl) rfl
set_option maxRecDepth 100000 in
theorem says_none (w : World) : Says 157 #[] encCl noneC w := by
  rintro c v W hW ⟨A, n, a, B, m, b, rfl, hT, hU⟩
  have HT := hid hT; have HU := hid hU
  have Hb := hid (show noneC c = (c.tags.any (fun s => !tagN s) || c.types.any (fun s => !mayN s)) from rfl)
  clear hT hU
  have HE0 := hid (ext_alloc W (.cells #[.slice A n a, .slice B m b] 67))
  have b0 : (W.alloc (.cells #[.slice A n a, .slice B m b] 67)).cell? ⟨W.heap.size, 0, none⟩ = some (.slice A n a) := by rw [cell_of_row _ _ _ _ _ _ (heap_alloc_last W _)]; rfl
  have b1 : (W.alloc (.cells #[.slice A n a, .slice B m b] 67)).cell? ⟨W.heap.size, 1, none⟩ = some (.slice B m b) := by rw [cell_of_row _ _ _ _ _ _ (heap_alloc_last W _)]; rfl
  have B1 := hid b1
  go_enter Tryz.func157, Tryz.ntmps157
  go_wp2_with fail
  refine (containsFunc_txt (HT.out.grow HE0.out) _ #[] enters_notag _ (says_notag _)).mono ?_
  rintro e w1 ⟨rfl, hE⟩
  have HE1 := hid hE
  have b1' := cell_later hE B1.out
  clear hE b0 b1
  cases h1 : c.tags.any (fun s => !tagN s)
  · go_wp2_with fail
    refine (containsFunc_txt (HU.out.grow (Ext.trans' HE0.out HE1.out)) _ #[] enters_noname _ (says_noname _)).mono ?_
    rintro e w2 ⟨rfl, hE⟩
    have HE2 := hid (Ext.trans' (Ext.trans' HE0.out HE1.out) hE)
    clear hE b1'
    go_wp2
    go_ret
    exact ⟨by rw [Hb.out, h1]; rfl, HE2.out⟩
  · go_wp2
    go_ret
    exact ⟨by rw [Hb.out, h1]; rfl, Ext.trans' HE0.out HE1.out⟩
theorem big_lens {xs : List ClV} (h : xs.any bigC = false) {c : ClV} (hc : c ∈ xs) : c.tags.length ≤ 1000000 ∧ c.types.length ≤ 1000000 := by
  rw [List.any_eq_false] at h
  have := h c hc
  unfold bigC at this
  simp only [Bool.or_eq_true, decide_eq_true_eq, not_or] at this
  omega
set_option maxRecDepth 100000 in
theorem says_riseU (w : World) {xs : List ClV} (hbig : xs.any bigC = false) : Says 163 #[] (encOn xs) riseC w := by
  rintro c v W hW ⟨⟨A, n, a, B, m, b, rfl, hT, hU⟩, hm⟩
  obtain ⟨hl1, hl2⟩ := big_lens hbig hm
  have HT := hid hT; have HU := hid hU
  have Hb := hid (show riseC c = (!riseB c.tags || !riseB c.types) from rfl)
  have Hl1 := hid (show n ≤ 1000000 by rw [hT.1]; exact hl1)
  have Hl2 := hid (show m ≤ 1000000 by rw [hU.1]; exact hl2)
  clear hT hU hl1 hl2 hbig hm
  have HE0 := hid (ext_alloc W (.cells #[.slice A n a, .slice B m b] 67))
  have b0 : (W.alloc (.cells #[.slice A n a, .slice B m b] 67)).cell? ⟨W.heap.size, 0, none⟩ = some (.slice A n a) := by rw [cell_of_row _ _ _ _ _ _ (heap_alloc_last W _)]; rfl
  have b1 : (W.alloc (.cells #[.slice A n a, .slice B m b] 67)).cell? ⟨W.heap.size, 1, none⟩ = some (.slice B m b) := by rw [cell_of_row _ _ _ _ _ _ (heap_alloc_last W _)]; rfl
  have B1 := hid b1
  go_enter Tryz.func163, Tryz.ntmps163
  go_wp2_with fail
  refine (rise_at (HT.out.grow HE0.out) Hl1.out).mono ?_
  rintro e w1 ⟨rfl, hE⟩
  have HE1 := hid hE
  have b1' := cell_later hE B1.out
  clear hE b0 b1
  cases h1 : riseB c.tags
  · go_wp2
    go_ret
    exact ⟨by rw [Hb.out, h1]; rfl, Ext.trans' HE0.out HE1.out⟩
  · go_wp2_with fail
    refine (rise_at (HU.out.grow (Ext.trans' HE0.out HE1.out)) Hl2.out).mono ?_
    rintro e w2 ⟨rfl, hE⟩
    have HE2 := hid (Ext.trans' (Ext.trans' HE0.out HE1.out) hE)
    clear hE b1'
    go_wp2
    go_ret
    exact ⟨by rw [Hb.out, h1]; rfl, HE2.out⟩
set_option maxRecDepth 100000 in
set_option maxHeartbeats 4000000 in
theorem mayQ_at {w : World} {A : Option Addr} {n c : Nat} {q : List ClV} (h : SlR RCl w (· < w.heap.size) A n c q) :
    Calls Tryz.prog 124 #[.agg #[.slice A n c]] w fun e w' => e = .returned (.int .i64 (mayQ q)) ∧ Ext w w' := by
  have Hn := hid h.1
  have H := hid h
  have HE0 := hid (ext_alloc w (.cells #[.slice A n c] 70))
  have b0 : (w.alloc (.cells #[.slice A n c] 70)).cell? ⟨w.heap.size, 0, none⟩ = some (.slice A n c) := by rw [cell_of_row _ _ _ _ _ _ (heap_alloc_last w _)]; rfl
  have B0 := hid b0
  clear h
  go_enter Tryz.func124, Tryz.ntmps124
  by_cases h4 : 4 < n
  · have g4 : (4 : Int) < (n : Int) := by omega
    have hr := hid (show mayQ q = 3 by unfold mayQ; rw [← Hn.out, decide_eq_true h4]; rfl)
    clear h4
    go_wp2
    go_ret
    exact ⟨by rw [hr.out]; rfl, HE0.out⟩
  have g4 : ¬ ((4 : Int) < (n : Int)) := by omega
  have Hq := hid (show mayQ q = if q.any bigC = true then 3 else if q.any noneC = true then 5 else if q.any riseC = true then 1 else 0 by unfold mayQ; rw [← Hn.out, decide_eq_false h4, Bool.false_or])
  clear h4
  go_wp2_with fail
  refine (some_at (H.out.grow HE0.out) _ #[] enters_big _ ((says_big _).on _)).mono ?_
  rintro e w1 ⟨rfl, hE⟩
  have HE1 := hid (Ext.trans' HE0.out hE)
  have b1 := cell_later hE B0.out
  have B1 := hid b1
  clear hE b0
  cases h1 : q.any bigC
  rotate_left
  · have hr := hid (show mayQ q = 3 by rw [Hq.out, if_pos h1])
    go_wp2
    go_ret
    exact ⟨by rw [hr.out]; rfl, HE1.out⟩
  have Hbig := hid h1
  go_wp2_with fail
  refine (some_at (H.out.grow HE1.out) _ #[] enters_none _ ((says_none _).on _)).mono ?_
  rintro e w2 ⟨rfl, hE⟩
  have HE2 := hid (Ext.trans' HE1.out hE)
  have b2 := cell_later hE B1.out
  clear hE b1
  cases h2 : q.any noneC
  rotate_left
  · have hr := hid (show mayQ q = 5 by rw [Hq.out, if_neg (by rw [Hbig.out]; decide), if_pos h2])
    go_wp2
    go_ret
    exact ⟨by rw [hr.out]; rfl, HE2.out⟩
  have H2 := hid h2
  go_wp2_with fail
  refine (some_at (H.out.grow HE2.out) _ #[] enters_rise _ (says_riseU _ Hbig.out)).mono ?_
  rintro e w3 ⟨rfl, hE⟩
  have HE3 := hid (Ext.trans' HE2.out hE)
  clear hE b2
  cases h3 : q.any riseC
  · have hr := hid (show mayQ q = 0 by rw [Hq.out, if_neg (by rw [Hbig.out]; decide), if_neg (by rw [H2.out]; decide), if_neg (by rw [h3]; decide)])
    go_wp2
    go_ret
    exact ⟨by rw [hr.out]; rfl, HE3.out⟩
  · have hr := hid (show mayQ q = 1 by rw [Hq.out, if_neg (by rw [Hbig.out]; decide), if_neg (by rw [H2.out]; decide), if_pos h3])
    go_wp2
    go_ret
    exact ⟨by rw [hr.out]; rfl, HE3.out⟩
end Go.Proofs.YtakebdeldndaaaaGreatDoor

/- Which events a query asks for: the program and the document. -/
namespace Go.Proofs.YtakebdeldndaaaaGreatDoor
open Go Go.RowKit
set_option linter.unusedSimpArgs false
set_option linter.unusedVariables false

def clauseB (e : EvV) (c : ClV) : Bool := !(c.tags.any fun s => !hasT e.tags s) && (decide (c.types.length = 0) || c.types.any (e.ty == ·))
def matchQ (q : List ClV) (e : EvV) : Bool := q.any (clauseB e)
set_option maxRecDepth 100000 in
theorem says_without {w : World} {bx : Nat} {A B : Option Addr} {n c m d : Nat} {e : EvV} (hb : EvBox bx A n c B m d e w) (h : EvIn w A n c B m d e) : Says 184 #[.pointer (some ⟨bx, 0, none⟩)] encTxt (fun s => !hasT e.tags s) w := by
  rintro s v W hW ⟨rfl, hs⟩
  have H := hid (h.grow hW)
  have Hb := hid (hb.ext hW)
  clear h hb hW
  obtain ⟨b0, b1, b2, b3⟩ := Hb.out.cells
  have hv := hid (show evVal A n c B m d e = .agg #[.string (str e.st), .string (str e.ty), .slice A n c, .slice B m d] from rfl)
  have hcc := has_at H.out s
  rw [hv.out] at hcc
  go_enter Tryz.func184, Tryz.ntmps184
  go_wp2_with fail
  refine hcc.mono ?_
  rintro x w1 ⟨rfl, hE⟩
  have HE := hid hE
  clear hE hcc b0 b1 b2 b3
  go_wp2
  go_ret
  exact ⟨rfl, HE.out⟩
theorem enters_without : Enters 184 := enters_of Tryz.func184 (by kernel_rfl) rfl
theorem enters_clause : Enters 183 := enters_of Tryz.func183 (by kernel_rfl) rfl
set_option maxRecDepth 100000 in
set_option maxHeartbeats 4000000 in
theorem says_clause {w : World} {bx : Nat} {A' B' : Option Addr} {n' c' m' d' : Nat} {e : EvV} (hb : EvBox bx A' n' c' B' m' d' e w) (h : EvIn w A' n' c' B' m' d' e) : Says 183 #[.pointer (some ⟨bx, 0, none⟩)] encCl (clauseB e) w := by
  rintro c v W hW ⟨A, n, a, B, m, b, rfl, hT, hU⟩
  have H := hid (h.grow hW)
  have Hb := hid (hb.ext hW)
  have HT := hid hT; have HU := hid hU
  have Hc := hid (show clauseB e c = (!(c.tags.any fun s => !hasT e.tags s) && (decide (m = 0) || c.types.any (e.ty == ·))) by unfold clauseB; rw [hU.1])
  clear h hb hW hT hU
  have HE0 := hid (ext_alloc W (.cells #[.slice A n a, .slice B m b] 67))
  have b0 : (W.alloc (.cells #[.slice A n a, .slice B m b] 67)).cell? ⟨W.heap.size, 0, none⟩ = some (.slice A n a) := by rw [cell_of_row _ _ _ _ _ _ (heap_alloc_last W _)]; rfl
  have b1 : (W.alloc (.cells #[.slice A n a, .slice B m b] 67)).cell? ⟨W.heap.size, 1, none⟩ = some (.slice B m b) := by rw [cell_of_row _ _ _ _ _ _ (heap_alloc_last W _)]; rfl
  have B1 := hid b1
  go_enter Tryz.func183, Tryz.ntmps183
  go_wp2_with fail
  refine (containsFunc_txt (HT.out.grow HE0.out) _ _ enters_without _ (says_without (Hb.out.ext HE0.out) (H.out.grow HE0.out))).mono ?_
  rintro x w1 ⟨rfl, hE⟩
  have HE1 := hid (Ext.trans' HE0.out hE)
  have b1' := cell_later hE B1.out
  clear hE b0 b1
  cases h1 : c.tags.any (fun s => !hasT e.tags s)
  rotate_left
  · have hr := hid (show clauseB e c = false by rw [Hc.out, h1]; rfl)
    go_wp2
    go_ret
    exact ⟨by rw [hr.out]; rfl, HE1.out⟩
  have Hc2 := hid (show clauseB e c = (decide (m = 0) || c.types.any (e.ty == ·)) by rw [Hc.out, h1]; rfl)
  by_cases h2 : m = 0
  · subst h2
    have hr := hid (show clauseB e c = true by rw [Hc2.out]; rfl)
    go_wp2
    go_ret
    exact ⟨by rw [hr.out]; rfl, HE1.out⟩
  · have g2 : ((m : Int) == 0) = false := beq_eq_false_iff_ne.2 (by omega)
    have hr := hid (show clauseB e c = c.types.any (e.ty == ·) by rw [Hc2.out, decide_eq_false h2]; rfl)
    obtain ⟨e0, e1, e2, e3⟩ := (Hb.out.ext HE1.out).cells
    have E1 := hid e1
    clear e0 e2 e3 e1 h2
    have e1 := E1.out
    go_wp2_with fail
    refine (contains_txt (HU.out.grow HE1.out) e.ty).mono ?_
    rintro x w' ⟨rfl, rfl⟩
    clear b1' e1
    generalize c.types.any (e.ty == ·) = r at hr ⊢
    go_wp2
    go_ret
    exact ⟨by rw [hr.out]; rfl, HE1.out⟩
set_option maxRecDepth 100000 in
set_option maxHeartbeats 4000000 in
theorem match_at {w : World} {Aq : Option Addr} {nq cq : Nat} {q : List ClV} (hq : SlR RCl w (· < w.heap.size) Aq nq cq q) {A B : Option Addr} {n c m d : Nat} {e : EvV} (h : EvIn w A n c B m d e) :
    Calls Tryz.prog 142 #[.agg #[.slice Aq nq cq], evVal A n c B m d e] w fun x w' => x = .returned (.bool (matchQ q e)) ∧ Ext w w' := by
  unfold evVal
  have Hq := hid hq; have H := hid h
  have HEq := hid (ext_alloc w (.cells #[.slice Aq nq cq] 70))
  have b0 : (w.alloc (.cells #[.slice Aq nq cq] 70)).cell? ⟨w.heap.size, 0, none⟩ = some (.slice Aq nq cq) := by rw [cell_of_row _ _ _ _ _ _ (heap_alloc_last w _)]; rfl
  have HE0 := hid (ext_alloc (w.alloc (.cells #[.slice Aq nq cq] 70)) (.cells #[.string (str e.st), .string (str e.ty), .slice A n c, .slice B m d] 113))
  have Hbx := hid (show EvBox (w.alloc (.cells #[.slice Aq nq cq] 70)).heap.size A n c B m d e ((w.alloc (.cells #[.slice Aq nq cq] 70)).alloc (.cells #[.string (str e.st), .string (str e.ty), .slice A n c, .slice B m d] 113)) from heap_alloc_last _ _)
  have b0' := cell_later HE0.out b0
  have hsz : (w.alloc (.cells #[.slice Aq nq cq] 70)).heap.size = w.heap.size + 1 := by simp
  clear hq h b0
  go_enter Tryz.func142, Tryz.ntmps142
  go_wp2_with fail
  have HEE := hid (Ext.trans' HEq.out HE0.out)
  rw [hsz] at Hbx
  refine (some_at (Hq.out.grow HEE.out) _ _ enters_clause _ ((says_clause Hbx.out (H.out.grow HEE.out)).on _)).mono ?_
  rintro x w1 ⟨rfl, hE⟩
  have HE1 := hid (Ext.trans' HEE.out hE)
  have hr := hid (show matchQ q e = q.any (clauseB e) from rfl)
  clear hE b0'
  go_wp2
  go_ret
  exact ⟨by rw [hr.out]; rfl, HE1.out⟩
end Go.Proofs.YtakebdeldndaaaaGreatDoor

/- Which events a query asks for, as the document says. -/
namespace Go.Proofs.YtakebdeldndaaaaGreatDoor
open Go Go.RowKit
set_option linter.unusedSimpArgs false
set_option linter.unusedVariables false

def ClBox (bx : Nat) (A : Option Addr) (n a : Nat) (B : Option Addr) (m b : Nat) (w : World) : Prop := w.heap[bx]? = some (.cells #[.slice A n a, .slice B m b] 67)
theorem ClBox.cells {bx : Nat} {A B : Option Addr} {n a m b : Nat} {w : World} (h : ClBox bx A n a B m b w) : w.cell? ⟨bx, 0, none⟩ = some (.slice A n a) ∧ w.cell? ⟨bx, 1, none⟩ = some (.slice B m b) := by
  refine ⟨?_, ?_⟩ <;> · rw [cell_of_row _ _ _ _ _ _ h]; rfl
theorem ClBox.ext {bx : Nat} {A B : Option Addr} {n a m b : Nat} {w w' : World} (h : ClBox bx A n a B m b w) (hE : Ext w w') : ClBox bx A n a B m b w' := (hE.block bx (Array.getElem?_eq_some_iff.1 h).1).trans h
set_option maxRecDepth 100000 in
set_option maxHeartbeats 4000000 in
theorem refClause_at {w : World} {A' B' : Option Addr} {n a m b : Nat} {c : ClV} (hT : SlR Rep.txt w (· < w.heap.size) A' n a c.tags) (hU : SlR Rep.txt w (· < w.heap.size) B' m b c.types) {A B : Option Addr} {n' c' m' d' : Nat} {e : EvV} (h : EvIn w A n' c' B m' d' e) :
    Calls Tryz.prog 187 #[.agg #[.slice A' n a, .slice B' m b], evVal A n' c' B m' d' e] w fun x w' => x = .returned (.bool (clauseB e c)) ∧ Ext w w' := by
  have hst := str_toList
  have hn := hid hT.1
  have hm := hid hU.1
  have hna := hT.2.1
  have hac := hT.2.2.1
  have hmb := hU.2.1
  have hbc := hU.2.2.1
  have hv := hid (show evVal A n' c' B m' d' e = .agg #[.string (str e.st), .string (str e.ty), .slice A n' c', .slice B m' d'] from rfl)
  rw [hv.out]
  have HEc := hid (ext_alloc w (.cells #[.slice A' n a, .slice B' m b] 67))
  have Hcx0 := hid (show ClBox w.heap.size A' n a B' m b (w.alloc (.cells #[.slice A' n a, .slice B' m b] 67)) from heap_alloc_last _ _)
  have hsz : (w.alloc (.cells #[.slice A' n a, .slice B' m b] 67)).heap.size = w.heap.size + 1 := by simp
  have HE0 := hid (ext_alloc (w.alloc (.cells #[.slice A' n a, .slice B' m b] 67)) (.cells #[.string (str e.st), .string (str e.ty), .slice A n' c', .slice B m' d'] 113))
  have Hbx := hid (show EvBox (w.heap.size + 1) A n' c' B m' d' e ((w.alloc (.cells #[.slice A' n a, .slice B' m b] 67)).alloc (.cells #[.string (str e.st), .string (str e.ty), .slice A n' c', .slice B m' d'] 113)) from by have := heap_alloc_last (w.alloc (.cells #[.slice A' n a, .slice B' m b] 67)) (.cells #[.string (str e.st), .string (str e.ty), .slice A n' c', .slice B m' d'] 113); rw [hsz] at this; exact this)
  have Hcx := hid (Hcx0.out.ext HE0.out)
  have HEE := hid (Ext.trans' HEc.out HE0.out)
  have H1 := hid (h.grow HEE.out)
  have HT := hid (hT.grow HEE.out)
  have HU := hid (hU.grow HEE.out)
  have Hc := hid (show clauseB e c = (!(c.tags.any fun s => !hasT e.tags s) && (decide (c.types.length = 0) || c.types.any (e.ty == ·))) from rfl)
  clear Hcx0 hT hU h
  go_enter Tryz.func187, Tryz.ntmps187
  go_wp2_with fail
  generalize (w.alloc (.cells #[.slice A' n a, .slice B' m b] 67)).alloc (.cells #[.string (str e.st), .string (str e.ty), .slice A n' c', .slice B m' d'] 113) = w1 at HEE Hbx Hcx H1 HT HU HE0 ⊢
  clear HE0 HEc hsz
  go_loopw [5] (fun i wr => ∃ k : Nat, k ≤ n ∧ i = .int .i64 (k : Int) ∧ Hid (Ext w1 wr) ∧ Hid (∀ j (hj : j < k) (h : j < c.tags.length), hasT e.tags c.tags[j] = true)) (fun i _ => n - (intOf i).toNat)
  case atStart => exact ⟨0, by omega, rfl, Below.refl _ _, fun j hj => by omega⟩
  case round =>
    obtain ⟨k, hk, rfl, HE, HN⟩ := hrel
    obtain ⟨c0, -⟩ := (Hcx.out.ext HE.out).cells
    by_cases hlt : k < n
    · have hkx : k < c.tags.length := by have := hn.out; omega
      have hlt' : (k : Int) < (n : Int) := by omega
      have hk00 : ¬ ((k : Int) < 0) := by omega
      have hk0 : (0 : Int) ≤ (k : Int) := by omega
      obtain ⟨bb, o, rfl, -, f0, -⟩ := txt_at (HT.out.grow HE.out) k hkx
      have Hm := hid (show c.tags[k] ∈ c.tags from List.getElem_mem hkx)
      have Hk := hid (show ∀ (hp : hasT e.tags c.tags[k] = true) j (hj : j < k + 1) (h : j < c.tags.length), hasT e.tags c.tags[j] = true from fun hp j hj h => by
        rcases Nat.lt_succ_iff_lt_or_eq.1 hj with h' | rfl
        · exact HN.out j h' h
        · exact hp)
      generalize c.tags[k] = x at f0 Hm Hk
      have F0 := hid f0
      clear f0
      go_wp2_with fail
      clear c0
      apply wp_drawn [isV _, isV _, isV _, isV _, isV _, isV _, isV _, isV _] (by kernel_rfl)
      · kernel_rfl
      · refine ⟨?ras0, ?ras1, ?ras2, ?ras3, ?ras4, ?ras5, ?ras6, ?ras7, trivial⟩
        case ras0 =>
          intro v W hE hd; simp only [Region.wanted, ↓reduceIte]; (try simp [deps, waitsOn, Region.binds, knowing, isV, ownsV, anyV] at hd); simp only [putAll, List.take_succ_cons, List.take_zero, List.drop_succ_cons, List.drop_zero, Act.put, List.setIfInBounds_toArray, List.set_cons_zero, List.set_cons_succ, Nat.zero_add, Nat.reduceAdd]
          obtain ⟨e0, e1, e2, e3⟩ := (Hbx.out.ext (Ext.trans' HE.out hE)).cells
          go_simp
          exact ⟨Below.refl _ _, rfl⟩
        case ras1 =>
          intro v W hE hd; simp only [Region.wanted, ↓reduceIte]; (try simp [deps, waitsOn, Region.binds, knowing, isV, ownsV, anyV] at hd); simp only [putAll, List.take_succ_cons, List.take_zero, List.drop_succ_cons, List.drop_zero, Act.put, List.setIfInBounds_toArray, List.set_cons_zero, List.set_cons_succ, Nat.zero_add, Nat.reduceAdd]; go_simp; exact ⟨Below.refl _ _, rfl⟩
        case ras2 =>
          intro v W hE hd; simp only [Region.wanted, ↓reduceIte]; (try simp [deps, waitsOn, Region.binds, knowing, isV, ownsV, anyV] at hd); simp only [putAll, List.take_succ_cons, List.take_zero, List.drop_succ_cons, List.drop_zero, Act.put, List.setIfInBounds_toArray, List.set_cons_zero, List.set_cons_succ, Nat.zero_add, Nat.reduceAdd]
          obtain ⟨e0, e1⟩ := (Hcx.out.ext (Ext.trans' HE.out hE)).cells
          go_simp
          exact ⟨Below.refl _ _, rfl⟩
        case ras3 =>
          intro v W hE hd; simp only [Region.wanted, ↓reduceIte]; (try simp [deps, waitsOn, Region.binds, knowing, isV, ownsV, anyV] at hd); simp only [putAll, List.take_succ_cons, List.take_zero, List.drop_succ_cons, List.drop_zero, Act.put, List.setIfInBounds_toArray, List.set_cons_zero, List.set_cons_succ, Nat.zero_add, Nat.reduceAdd]; go_simp; exact ⟨Below.refl _ _, rfl⟩
        case ras4 =>
          intro v W hE hd; simp only [Region.wanted, ↓reduceIte]; (try simp [deps, waitsOn, Region.binds, knowing, isV, ownsV, anyV] at hd); simp only [putAll, List.take_succ_cons, List.take_zero, List.drop_succ_cons, List.drop_zero, Act.put, List.setIfInBounds_toArray, List.set_cons_zero, List.set_cons_succ, Nat.zero_add, Nat.reduceAdd]; go_simp; exact ⟨Below.refl _ _, rfl⟩
        case ras5 =>
          intro v W hE hd; simp only [Region.wanted, ↓reduceIte]; (try simp [deps, waitsOn, Region.binds, knowing, isV, ownsV, anyV] at hd); simp only [putAll, List.take_succ_cons, List.take_zero, List.drop_succ_cons, List.drop_zero, Act.put, List.setIfInBounds_toArray, List.set_cons_zero, List.set_cons_succ, Nat.zero_add, Nat.reduceAdd]
          have e1 := cell_later hE F0.out
          go_simp
          exact ⟨Below.refl _ _, rfl⟩
        case ras6 =>
          intro v W hE hd; simp only [Region.wanted, ↓reduceIte]; (try simp [deps, waitsOn, Region.binds, knowing, isV, ownsV, anyV] at hd); simp only [putAll, List.take_succ_cons, List.take_zero, List.drop_succ_cons, List.drop_zero, Act.put, List.setIfInBounds_toArray, List.set_cons_zero, List.set_cons_succ, Nat.zero_add, Nat.reduceAdd]
          go_simp
          refine ((refHas_at (H1.out.grow (Ext.trans' HE.out hE)) x)).mono ?_
          rintro z w' ⟨rfl, hE2⟩
          have HE2 := hid hE2
          clear hE2
          go_simp
          exact ⟨HE2.out, rfl⟩
        case ras7 =>
          intro v W hE hd; simp only [Region.wanted, ↓reduceIte]; (try simp [deps, waitsOn, Region.binds, knowing, isV, ownsV, anyV] at hd); simp only [putAll, List.take_succ_cons, List.take_zero, List.drop_succ_cons, List.drop_zero, Act.put, List.setIfInBounds_toArray, List.set_cons_zero, List.set_cons_succ, Nat.zero_add, Nat.reduceAdd]; go_simp; exact ⟨Below.refl _ _, rfl⟩
      · rintro v W6 hE ⟨-, -, -, -, -, -, -, e7, -⟩
        have e7 := (show v 7 = _ from e7)
        simp only [putAll, List.take_succ_cons, List.take_zero, List.drop_succ_cons, List.drop_zero, Act.put, List.setIfInBounds_toArray, List.set_cons_zero, List.set_cons_succ, Nat.zero_add, Nat.reduceAdd]
        rw [e7]
        clear e7
        cases hp : hasT e.tags x
        · have hr := hid (show clauseB e c = false by
            rw [Hc.out, show (c.tags.any fun s => !hasT e.tags s) = true from List.any_eq_true.2 ⟨x, Hm.out, by rw [hp]; rfl⟩]; rfl)
          go_wp2
          go_ret
          exact ⟨by rw [hr.out]; rfl, Ext.trans' HEE.out (Ext.trans' HE.out hE)⟩
        · have hn2 := hid (Hk.out hp)
          have HE2 := hid (Ext.trans' HE.out hE)
          clear hE
          go_wp2_with fail
          go_roundw
          case rel => exact ⟨k + 1, by omega, by go_num, HE2, hn2⟩
          case measure => simp [intOf]; omega
    · obtain rfl : k = n := by omega
      have hlt' : ¬ ((k : Int) < (k : Int)) := by omega
      have Hc2 := hid (show clauseB e c = (decide (c.types.length = 0) || c.types.any (e.ty == ·)) by
        have : (c.tags.any fun s => !hasT e.tags s) = false := by
          rw [List.any_eq_false]
          intro x hx
          obtain ⟨j, hj, rfl⟩ := List.getElem_of_mem hx
          rw [HN.out j (by have := hn.out; omega) hj]; decide
        rw [Hc.out, this]; rfl)
      have HEo := HE
      clear HE
      go_wp2_with fail
      clear c0
      go_loopw [7] (fun i wr2 => ∃ k2 : Nat, k2 ≤ m ∧ i = .int .i64 (k2 : Int) ∧ Hid (Ext w1 wr2) ∧ Hid (∀ j (hj : j < k2) (h : j < c.types.length), (e.ty == c.types[j]) = false)) (fun i _ => m - (intOf i).toNat)
      case atStart => exact ⟨0, by omega, rfl, HEo, fun j hj => by omega⟩
      case round =>
        clear HN
        obtain ⟨k2, hk2, rfl, HE, HN⟩ := hrel
        obtain ⟨-, c1⟩ := (Hcx.out.ext HE.out).cells
        by_cases hlt2 : k2 < m
        · have hkx : k2 < c.types.length := by have := hm.out; omega
          have hlt2' : (k2 : Int) < (m : Int) := by omega
          have hk00 : ¬ ((k2 : Int) < 0) := by omega
          have hk0 : (0 : Int) ≤ (k2 : Int) := by omega
          obtain ⟨bb, o, rfl, -, f0, -⟩ := txt_at (HU.out.grow HE.out) k2 hkx
          have F0 := hid f0
          cases hp : (e.ty == c.types[k2])
          · have hn2 := hid (prefix_next (p := (e.ty == ·)) HN.out hkx hp)
            have hpy : (c.types[k2] == e.ty) = false := by rw [← hp]; exact Bool.eq_iff_iff.2 (by simp only [beq_iff_eq]; exact eq_comm)
            generalize c.types[k2] = x at F0 hpy
            clear hp f0
            go_wp2_with fail
            clear c1
            apply wp_drawn [isV _, isV _, isV _, isV _, isV _, isV _, isV _, isV _] (by kernel_rfl)
            · kernel_rfl
            · refine ⟨?rbs0, ?rbs1, ?rbs2, ?rbs3, ?rbs4, ?rbs5, ?rbs6, ?rbs7, trivial⟩
              case rbs0 =>
                intro v W hE hd; simp only [Region.wanted, ↓reduceIte]; (try simp [deps, waitsOn, Region.binds, knowing, isV, ownsV, anyV] at hd); simp only [putAll, List.take_succ_cons, List.take_zero, List.drop_succ_cons, List.drop_zero, Act.put, List.setIfInBounds_toArray, List.set_cons_zero, List.set_cons_succ, Nat.zero_add, Nat.reduceAdd]; go_simp; exact ⟨Below.refl _ _, rfl⟩
              case rbs1 =>
                intro v W hE hd; simp only [Region.wanted, ↓reduceIte]; (try simp [deps, waitsOn, Region.binds, knowing, isV, ownsV, anyV] at hd); simp only [putAll, List.take_succ_cons, List.take_zero, List.drop_succ_cons, List.drop_zero, Act.put, List.setIfInBounds_toArray, List.set_cons_zero, List.set_cons_succ, Nat.zero_add, Nat.reduceAdd]
                obtain ⟨e0, e1⟩ := (Hcx.out.ext (Ext.trans' HE.out hE)).cells
                go_simp
                exact ⟨Below.refl _ _, rfl⟩
              case rbs2 =>
                intro v W hE hd; simp only [Region.wanted, ↓reduceIte]; (try simp [deps, waitsOn, Region.binds, knowing, isV, ownsV, anyV] at hd); simp only [putAll, List.take_succ_cons, List.take_zero, List.drop_succ_cons, List.drop_zero, Act.put, List.setIfInBounds_toArray, List.set_cons_zero, List.set_cons_succ, Nat.zero_add, Nat.reduceAdd]; go_simp; exact ⟨Below.refl _ _, rfl⟩
              case rbs3 =>
                intro v W hE hd; simp only [Region.wanted, ↓reduceIte]; (try simp [deps, waitsOn, Region.binds, knowing, isV, ownsV, anyV] at hd); simp only [putAll, List.take_succ_cons, List.take_zero, List.drop_succ_cons, List.drop_zero, Act.put, List.setIfInBounds_toArray, List.set_cons_zero, List.set_cons_succ, Nat.zero_add, Nat.reduceAdd]; go_simp; exact ⟨Below.refl _ _, rfl⟩
              case rbs4 =>
                intro v W hE hd; simp only [Region.wanted, ↓reduceIte]; (try simp [deps, waitsOn, Region.binds, knowing, isV, ownsV, anyV] at hd); simp only [putAll, List.take_succ_cons, List.take_zero, List.drop_succ_cons, List.drop_zero, Act.put, List.setIfInBounds_toArray, List.set_cons_zero, List.set_cons_succ, Nat.zero_add, Nat.reduceAdd]
                have e1 := cell_later hE F0.out
                go_simp
                exact ⟨Below.refl _ _, rfl⟩
              case rbs5 =>
                intro v W hE hd; simp only [Region.wanted, ↓reduceIte]; (try simp [deps, waitsOn, Region.binds, knowing, isV, ownsV, anyV] at hd); simp only [putAll, List.take_succ_cons, List.take_zero, List.drop_succ_cons, List.drop_zero, Act.put, List.setIfInBounds_toArray, List.set_cons_zero, List.set_cons_succ, Nat.zero_add, Nat.reduceAdd]; go_simp; exact ⟨Below.refl _ _, rfl⟩
              case rbs6 =>
                intro v W hE hd; simp only [Region.wanted, ↓reduceIte]; (try simp [deps, waitsOn, Region.binds, knowing, isV, ownsV, anyV] at hd); simp only [putAll, List.take_succ_cons, List.take_zero, List.drop_succ_cons, List.drop_zero, Act.put, List.setIfInBounds_toArray, List.set_cons_zero, List.set_cons_succ, Nat.zero_add, Nat.reduceAdd]
                obtain ⟨e0, e1, e2, e3⟩ := (Hbx.out.ext (Ext.trans' HE.out hE)).cells
                go_simp
                exact ⟨Below.refl _ _, rfl⟩
              case rbs7 =>
                intro v W hE hd; simp only [Region.wanted, ↓reduceIte]; (try simp [deps, waitsOn, Region.binds, knowing, isV, ownsV, anyV] at hd); simp only [putAll, List.take_succ_cons, List.take_zero, List.drop_succ_cons, List.drop_zero, Act.put, List.setIfInBounds_toArray, List.set_cons_zero, List.set_cons_succ, Nat.zero_add, Nat.reduceAdd]; go_simp; exact ⟨Below.refl _ _, rfl⟩
            · rintro v W6 hE ⟨-, -, -, -, -, -, -, e7, -⟩
              have e7 := (show v 7 = _ from e7)
              simp only [putAll, List.take_succ_cons, List.take_zero, List.drop_succ_cons, List.drop_zero, Act.put, List.setIfInBounds_toArray, List.set_cons_zero, List.set_cons_succ, Nat.zero_add, Nat.reduceAdd]
              rw [e7]
              clear e7
              have HE2 := hid (Ext.trans' HE.out hE)
              clear hE
              go_wp2_with fail
              go_roundw
              case rel => exact ⟨k2 + 1, by omega, by go_num, HE2, hn2⟩
              case measure => simp [intOf]; omega
          · have hr := hid (show clauseB e c = true by
              rw [Hc2.out, show c.types.any (e.ty == ·) = true from List.any_eq_true.2 ⟨_, List.getElem_mem hkx, hp⟩, Bool.or_true])
            have hpy : (c.types[k2] == e.ty) = true := by rw [← hp]; exact Bool.eq_iff_iff.2 (by simp only [beq_iff_eq]; exact eq_comm)
            generalize c.types[k2] = x at F0 hpy
            clear hp f0
            go_wp2_with fail
            clear c1
            apply wp_drawn [isV _, isV _, isV _, isV _, isV _, isV _, isV _, isV _] (by kernel_rfl)
            · kernel_rfl
            · refine ⟨?rcs0, ?rcs1, ?rcs2, ?rcs3, ?rcs4, ?rcs5, ?rcs6, ?rcs7, trivial⟩
              case rcs0 =>
                intro v W hE hd; simp only [Region.wanted, ↓reduceIte]; (try simp [deps, waitsOn, Region.binds, knowing, isV, ownsV, anyV] at hd); simp only [putAll, List.take_succ_cons, List.take_zero, List.drop_succ_cons, List.drop_zero, Act.put, List.setIfInBounds_toArray, List.set_cons_zero, List.set_cons_succ, Nat.zero_add, Nat.reduceAdd]; go_simp; exact ⟨Below.refl _ _, rfl⟩
              case rcs1 =>
                intro v W hE hd; simp only [Region.wanted, ↓reduceIte]; (try simp [deps, waitsOn, Region.binds, knowing, isV, ownsV, anyV] at hd); simp only [putAll, List.take_succ_cons, List.take_zero, List.drop_succ_cons, List.drop_zero, Act.put, List.setIfInBounds_toArray, List.set_cons_zero, List.set_cons_succ, Nat.zero_add, Nat.reduceAdd]
                obtain ⟨e0, e1⟩ := (Hcx.out.ext (Ext.trans' HE.out hE)).cells
                go_simp
                exact ⟨Below.refl _ _, rfl⟩
              case rcs2 =>
                intro v W hE hd; simp only [Region.wanted, ↓reduceIte]; (try simp [deps, waitsOn, Region.binds, knowing, isV, ownsV, anyV] at hd); simp only [putAll, List.take_succ_cons, List.take_zero, List.drop_succ_cons, List.drop_zero, Act.put, List.setIfInBounds_toArray, List.set_cons_zero, List.set_cons_succ, Nat.zero_add, Nat.reduceAdd]; go_simp; exact ⟨Below.refl _ _, rfl⟩
              case rcs3 =>
                intro v W hE hd; simp only [Region.wanted, ↓reduceIte]; (try simp [deps, waitsOn, Region.binds, knowing, isV, ownsV, anyV] at hd); simp only [putAll, List.take_succ_cons, List.take_zero, List.drop_succ_cons, List.drop_zero, Act.put, List.setIfInBounds_toArray, List.set_cons_zero, List.set_cons_succ, Nat.zero_add, Nat.reduceAdd]; go_simp; exact ⟨Below.refl _ _, rfl⟩
              case rcs4 =>
                intro v W hE hd; simp only [Region.wanted, ↓reduceIte]; (try simp [deps, waitsOn, Region.binds, knowing, isV, ownsV, anyV] at hd); simp only [putAll, List.take_succ_cons, List.take_zero, List.drop_succ_cons, List.drop_zero, Act.put, List.setIfInBounds_toArray, List.set_cons_zero, List.set_cons_succ, Nat.zero_add, Nat.reduceAdd]
                have e1 := cell_later hE F0.out
                go_simp
                exact ⟨Below.refl _ _, rfl⟩
              case rcs5 =>
                intro v W hE hd; simp only [Region.wanted, ↓reduceIte]; (try simp [deps, waitsOn, Region.binds, knowing, isV, ownsV, anyV] at hd); simp only [putAll, List.take_succ_cons, List.take_zero, List.drop_succ_cons, List.drop_zero, Act.put, List.setIfInBounds_toArray, List.set_cons_zero, List.set_cons_succ, Nat.zero_add, Nat.reduceAdd]; go_simp; exact ⟨Below.refl _ _, rfl⟩
              case rcs6 =>
                intro v W hE hd; simp only [Region.wanted, ↓reduceIte]; (try simp [deps, waitsOn, Region.binds, knowing, isV, ownsV, anyV] at hd); simp only [putAll, List.take_succ_cons, List.take_zero, List.drop_succ_cons, List.drop_zero, Act.put, List.setIfInBounds_toArray, List.set_cons_zero, List.set_cons_succ, Nat.zero_add, Nat.reduceAdd]
                obtain ⟨e0, e1, e2, e3⟩ := (Hbx.out.ext (Ext.trans' HE.out hE)).cells
                go_simp
                exact ⟨Below.refl _ _, rfl⟩
              case rcs7 =>
                intro v W hE hd; simp only [Region.wanted, ↓reduceIte]; (try simp [deps, waitsOn, Region.binds, knowing, isV, ownsV, anyV] at hd); simp only [putAll, List.take_succ_cons, List.take_zero, List.drop_succ_cons, List.drop_zero, Act.put, List.setIfInBounds_toArray, List.set_cons_zero, List.set_cons_succ, Nat.zero_add, Nat.reduceAdd]; go_simp; exact ⟨Below.refl _ _, rfl⟩
            · rintro v W6 hE ⟨-, -, -, -, -, -, -, e7, -⟩
              have e7 := (show v 7 = _ from e7)
              simp only [putAll, List.take_succ_cons, List.take_zero, List.drop_succ_cons, List.drop_zero, Act.put, List.setIfInBounds_toArray, List.set_cons_zero, List.set_cons_succ, Nat.zero_add, Nat.reduceAdd]
              rw [e7]
              clear e7
              go_wp2
              go_ret
              exact ⟨by rw [hr.out]; rfl, Ext.trans' HEE.out (Ext.trans' HE.out hE)⟩
        · obtain rfl : k2 = m := by omega
          have hlt2' : ¬ ((k2 : Int) < (k2 : Int)) := by omega
          have hr := hid (show clauseB e c = decide (k2 = 0) by
            have : c.types.any (e.ty == ·) = false := by
              rw [List.any_eq_false]
              intro x hx
              obtain ⟨j, hj, rfl⟩ := List.getElem_of_mem hx
              rw [HN.out j (by have := hm.out; omega) hj]; decide
            rw [Hc2.out, this, Bool.or_false, ← hm.out])
          go_wp2
          go_ret
          exact ⟨by rw [hr.out]; show Ending.returned (Value.bool _) = _; congr 2; rw [Bool.eq_iff_iff, beq_iff_eq, decide_eq_true_eq]; omega, Ext.trans' HEE.out HE.out⟩
set_option maxRecDepth 100000 in
set_option maxHeartbeats 4000000 in
theorem refMatch_at {w : World} {Aq : Option Addr} {n cq : Nat} {q : List ClV} (hq : SlR RCl w (· < w.heap.size) Aq n cq q) {A B : Option Addr} {n' c' m' d' : Nat} {e : EvV} (h : EvIn w A n' c' B m' d' e) :
    Calls Tryz.prog 144 #[.agg #[.slice Aq n cq], evVal A n' c' B m' d' e] w fun x w' => x = .returned (.bool (matchQ q e)) ∧ Ext w w' := by
  have hn := hid hq.1
  have hna := hq.2.1
  have hac := hq.2.2.1
  have hv := hid (show evVal A n' c' B m' d' e = .agg #[.string (str e.st), .string (str e.ty), .slice A n' c', .slice B m' d'] from rfl)
  rw [hv.out]
  have HEc := hid (ext_alloc w (.cells #[.slice Aq n cq] 70))
  have b0 : (w.alloc (.cells #[.slice Aq n cq] 70)).cell? ⟨w.heap.size, 0, none⟩ = some (.slice Aq n cq) := by rw [cell_of_row _ _ _ _ _ _ (heap_alloc_last w _)]; rfl
  have hsz : (w.alloc (.cells #[.slice Aq n cq] 70)).heap.size = w.heap.size + 1 := by simp
  have HE0 := hid (ext_alloc (w.alloc (.cells #[.slice Aq n cq] 70)) (.cells #[.string (str e.st), .string (str e.ty), .slice A n' c', .slice B m' d'] 113))
  have Hbx := hid (show EvBox (w.heap.size + 1) A n' c' B m' d' e ((w.alloc (.cells #[.slice Aq n cq] 70)).alloc (.cells #[.string (str e.st), .string (str e.ty), .slice A n' c', .slice B m' d'] 113)) from by have := heap_alloc_last (w.alloc (.cells #[.slice Aq n cq] 70)) (.cells #[.string (str e.st), .string (str e.ty), .slice A n' c', .slice B m' d'] 113); rw [hsz] at this; exact this)
  have Hqx := hid (cell_later HE0.out b0)
  have HEE := hid (Ext.trans' HEc.out HE0.out)
  have H1 := hid (h.grow HEE.out)
  have HQ := hid (hq.grow HEE.out)
  clear b0 hq h
  go_enter Tryz.func144, Tryz.ntmps144
  go_wp2_with fail
  generalize (w.alloc (.cells #[.slice Aq n cq] 70)).alloc (.cells #[.string (str e.st), .string (str e.ty), .slice A n' c', .slice B m' d'] 113) = w1 at HEE Hbx Hqx H1 HQ HE0 ⊢
  clear HE0 HEc hsz
  go_loopw [5] (fun i wr => ∃ k : Nat, k ≤ n ∧ i = .int .i64 (k : Int) ∧ Hid (Ext w1 wr) ∧ Hid (∀ j (hj : j < k) (h : j < q.length), clauseB e q[j] = false)) (fun i _ => n - (intOf i).toNat)
  case atStart => exact ⟨0, by omega, rfl, Below.refl _ _, fun j hj => by omega⟩
  case round =>
    obtain ⟨k, hk, rfl, HE, HN⟩ := hrel
    have c0 := cell_later HE.out Hqx.out
    by_cases hlt : k < n
    · have hkx : k < q.length := by have := hn.out; omega
      have hlt' : (k : Int) < (n : Int) := by omega
      have hk00 : ¬ ((k : Int) < 0) := by omega
      have hk0 : (0 : Int) ≤ (k : Int) := by omega
      obtain ⟨bb, o, T, ta, U, ua, rfl, -, f0, f1, hT, hU⟩ := cl_at (HQ.out.grow HE.out) k hkx
      have HT := hid hT; have HU := hid hU; have F0 := hid f0; have F1 := hid f1
      have Hk := hid (prefix_next (p := clauseB e) HN.out hkx)
      have Hm := hid (show ∀ (hp : clauseB e q[k] = true), matchQ q e = true from fun hp => List.any_eq_true.2 ⟨_, List.getElem_mem hkx, hp⟩)
      clear hT hU f0 f1
      generalize q[k] = x at HT HU F0 F1 Hk Hm
      generalize x.tags.length = tl at HT F0
      generalize x.types.length = ul at HU F1
      go_wp2_with fail
      clear c0
      apply wp_drawn [isV _, isV _, isV _, isV _, isV _, isV _, isV _, isV _] (by kernel_rfl)
      · kernel_rfl
      · refine ⟨?ras0, ?ras1, ?ras2, ?ras3, ?ras4, ?ras5, ?ras6, ?ras7, trivial⟩
        case ras0 =>
          intro v W hE hd; simp only [Region.wanted, ↓reduceIte]; (try simp [deps, waitsOn, Region.binds, knowing, isV, ownsV, anyV] at hd); simp only [putAll, List.take_succ_cons, List.take_zero, List.drop_succ_cons, List.drop_zero, Act.put, List.setIfInBounds_toArray, List.set_cons_zero, List.set_cons_succ, Nat.zero_add, Nat.reduceAdd]; go_simp; exact ⟨Below.refl _ _, rfl⟩
        case ras1 =>
          intro v W hE hd; simp only [Region.wanted, ↓reduceIte]; (try simp [deps, waitsOn, Region.binds, knowing, isV, ownsV, anyV] at hd); simp only [putAll, List.take_succ_cons, List.take_zero, List.drop_succ_cons, List.drop_zero, Act.put, List.setIfInBounds_toArray, List.set_cons_zero, List.set_cons_succ, Nat.zero_add, Nat.reduceAdd]
          have e1 := cell_later (Ext.trans' HE.out hE) Hqx.out
          go_simp
          exact ⟨Below.refl _ _, rfl⟩
        case ras2 =>
          intro v W hE hd; simp only [Region.wanted, ↓reduceIte]; (try simp [deps, waitsOn, Region.binds, knowing, isV, ownsV, anyV] at hd); simp only [putAll, List.take_succ_cons, List.take_zero, List.drop_succ_cons, List.drop_zero, Act.put, List.setIfInBounds_toArray, List.set_cons_zero, List.set_cons_succ, Nat.zero_add, Nat.reduceAdd]; go_simp; exact ⟨Below.refl _ _, rfl⟩
        case ras3 =>
          intro v W hE hd; simp only [Region.wanted, ↓reduceIte]; (try simp [deps, waitsOn, Region.binds, knowing, isV, ownsV, anyV] at hd); simp only [putAll, List.take_succ_cons, List.take_zero, List.drop_succ_cons, List.drop_zero, Act.put, List.setIfInBounds_toArray, List.set_cons_zero, List.set_cons_succ, Nat.zero_add, Nat.reduceAdd]; go_simp; exact ⟨Below.refl _ _, rfl⟩
        case ras4 =>
          intro v W hE hd; simp only [Region.wanted, ↓reduceIte]; (try simp [deps, waitsOn, Region.binds, knowing, isV, ownsV, anyV] at hd); simp only [putAll, List.take_succ_cons, List.take_zero, List.drop_succ_cons, List.drop_zero, Act.put, List.setIfInBounds_toArray, List.set_cons_zero, List.set_cons_succ, Nat.zero_add, Nat.reduceAdd]
          have e1 := cell_later hE F0.out
          have e2 := cell_later hE F1.out
          go_simp
          exact ⟨Below.refl _ _, rfl⟩
        case ras5 =>
          intro v W hE hd; simp only [Region.wanted, ↓reduceIte]; (try simp [deps, waitsOn, Region.binds, knowing, isV, ownsV, anyV] at hd); simp only [putAll, List.take_succ_cons, List.take_zero, List.drop_succ_cons, List.drop_zero, Act.put, List.setIfInBounds_toArray, List.set_cons_zero, List.set_cons_succ, Nat.zero_add, Nat.reduceAdd]
          obtain ⟨e0, e1, e2, e3⟩ := (Hbx.out.ext (Ext.trans' HE.out hE)).cells
          go_simp
          exact ⟨Below.refl _ _, rfl⟩
        case ras6 =>
          intro v W hE hd; simp only [Region.wanted, ↓reduceIte]; (try simp [deps, waitsOn, Region.binds, knowing, isV, ownsV, anyV] at hd); simp only [putAll, List.take_succ_cons, List.take_zero, List.drop_succ_cons, List.drop_zero, Act.put, List.setIfInBounds_toArray, List.set_cons_zero, List.set_cons_succ, Nat.zero_add, Nat.reduceAdd]
          go_simp
          have hcc := refClause_at (HT.out.grow hE) (HU.out.grow hE) (H1.out.grow (Ext.trans' HE.out hE))
          rw [hv.out] at hcc
          refine hcc.mono ?_
          rintro z w' ⟨rfl, hE2⟩
          have HE2 := hid hE2
          clear hE2 hcc
          go_simp
          exact ⟨HE2.out, rfl⟩
        case ras7 =>
          intro v W hE hd; simp only [Region.wanted, ↓reduceIte]; (try simp [deps, waitsOn, Region.binds, knowing, isV, ownsV, anyV] at hd); simp only [putAll, List.take_succ_cons, List.take_zero, List.drop_succ_cons, List.drop_zero, Act.put, List.setIfInBounds_toArray, List.set_cons_zero, List.set_cons_succ, Nat.zero_add, Nat.reduceAdd]; go_simp; exact ⟨Below.refl _ _, rfl⟩
      · rintro v W6 hE ⟨-, -, -, -, -, -, -, e7, -⟩
        have e7 := (show v 7 = _ from e7)
        simp only [putAll, List.take_succ_cons, List.take_zero, List.drop_succ_cons, List.drop_zero, Act.put, List.setIfInBounds_toArray, List.set_cons_zero, List.set_cons_succ, Nat.zero_add, Nat.reduceAdd]
        rw [e7]
        clear e7
        have HE2 := hid (Ext.trans' HE.out hE)
        clear hE
        cases hp : clauseB e x
        · have hn2 := hid (Hk.out hp)
          go_wp2_with fail
          go_roundw
          case rel => exact ⟨k + 1, by omega, by go_num, HE2, hn2⟩
          case measure => simp [intOf]; omega
        · have hr := hid (Hm.out hp)
          go_wp2
          go_ret
          exact ⟨by rw [hr.out]; rfl, Ext.trans' HEE.out HE2.out⟩
    · obtain rfl : k = n := by omega
      have hlt' : ¬ ((k : Int) < (k : Int)) := by omega
      have hr := hid (show matchQ q e = false by
        unfold matchQ
        rw [List.any_eq_false]
        intro x hx
        obtain ⟨j, hj, rfl⟩ := List.getElem_of_mem hx
        rw [HN.out j (by have := hn.out; omega) hj]; decide)
      go_wp2
      go_ret
      exact ⟨by rw [hr.out]; rfl, Ext.trans' HEE.out HE.out⟩
end Go.Proofs.YtakebdeldndaaaaGreatDoor

