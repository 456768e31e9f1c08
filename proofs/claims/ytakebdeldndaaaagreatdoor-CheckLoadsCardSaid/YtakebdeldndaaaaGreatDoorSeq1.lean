/- slices.Values of a row of texts, and slices.AppendSeq, Collect and Sorted over it. -/
import Derived.Test.YtakebdeldndaaaaGreatDoorQu
import Derived.Test.YtakebdeldndaaaaGreatDoorIter
import Derived.RangeFuncNested
import Derived.RangeFuncBound
import Derived.RangeFuncCalls
import Derived.RangeFuncLeaves
import Derived.RangeFuncFrom
import Derived.RangeFuncBox
import Derived.Shelf.Abstract
import Derived.Shelf.RegionOpen
import Derived.OwnWalkIn
import Derived.TacticsInMore
import Derived.LoopNIn
import Derived.LoopIn
namespace Go.Proofs.YtakebdeldndaaaaGreatDoor
open Go Go.RowKit Go.Shelf
set_option linter.unusedSimpArgs false
set_option linter.unusedVariables false
attribute [local go_sem] Oper.semAt_some
theorem txt_below {w W : World} {n0 : Nat} {A : Option Addr} {n c : Nat} {xs : List Str} (h : SlR Rep.txt w (· < n0) A n c xs) (hB : Below n0 w W) : SlR Rep.txt W (· < n0) A n c xs := h.ext fun k hk => hB.block k hk
set_option maxRecDepth 100000 in
set_option maxHeartbeats 4000000 in
theorem values_stops {w0 : World} {n0 : Nat} {A : Option Addr} {n c : Nat} {xs : List Str} (h : SlR Rep.txt w0 (· < n0) A n c xs) (hn0 : n0 ≤ w0.heap.size) (Bx : Nat) (hBx : Bx < n0) (hc : w0.cell? ⟨Bx, 0, none⟩ = some (.slice A n c)) (m : Nat) (hm : 1 ≤ m) :
  SeqStopsK Fence.wide m Tryz.prog 212 #[.pointer (some ⟨Bx, 0, none⟩)] (fun x : Str => #[.string (str x)]) (Below n0) (fun ys => ys = xs) (fun _ => True) n w0 := by
 intro l J Jx W hW hJ hJx hY h0
 have Hn := hid h.1
 have hnc := h.2.1
 have hcm := h.2.2.1
 have hWn : Below n0 w0 W := hW.mono hn0
 have H := hid (txt_below h hWn)
 have Hbx := hid (show W.cell? ⟨Bx, 0, none⟩ = some (.slice A n c) from (hWn.cell (p := ⟨Bx, 0, none⟩) hBx).trans hc)
 have HY := hid hY
 clear h hc hY hW hWn hJ hJx
 refine callsIn_of_wp Tryz.func212 rfl trivial ?_ rfl
 simp only [Tryz.ntmps212, List.size_toArray, List.length_cons, List.length_nil, Nat.reduceAdd, Nat.reduceSub, Array.replicate_succ, Array.replicate_zero, List.push_toArray, List.append_toArray, List.nil_append, List.cons_append]
 have hbx := Hbx.out
 gi_wp2
 clear hbx
 gi_loopw [7] (fun i wr => ∃ k : Nat, k ≤ n ∧ i = .int .i64 (k : Int) ∧ Hid (Below n0 W wr) ∧ Hid (J (xs.take k) wr)) (fun i _ => n - (intOf i).toNat)
 case atStart => exact ⟨0, by omega, rfl, Below.refl _ _, h0⟩
 case round =>
  obtain ⟨k, hk, rfl, HB, HJ⟩ := hrel
  by_cases hlt : k < n
  ·have hkx : k < xs.length := by have := Hn.out; omega
   have hlt' : (k : Int) < (n : Int) := by omega
   have hk00 : ¬ ((k : Int) < 0) := by omega
   have hk0 : (0 : Int) ≤ (k : Int) := by omega
   obtain ⟨b, o, rfl, -, f0, -⟩ := txt_at (txt_below H.out HB.out) k hkx
   have Ht := hid (show xs.take (k + 1) = xs.take k ++ [xs[k]] from List.take_succ_eq_append_getElem hkx)
   generalize xs[k] = x at f0 Ht
   obtain ⟨fn, tmps, assign, body, hy, hR⟩ := HY.out (xs.take k) x wr HJ.out (by rw [List.length_take]; omega)
   gi_wp2
   refine hR.mono ?_
   rintro e W3 (⟨rfl, hJ3, hk3⟩ | ⟨rfl, hJx3⟩)
   ·have HJ3 := hid hJ3
    have HB3 := hid (HB.out.trans hk3)
    clear hJ3 hk3
    gi_wp2
    go_roundw
    case rel => exact ⟨k + 1, by omega, by go_num, HB3, by rw [Ht.out]; exact HJ3.out⟩
    case measure => simp [intOf]; omega
   ·have HJx := hid hJx3
    clear hJx3
    gi_wp2
    refine bodyPost_ret (results_none rfl _ _ _) rfl ?_
    exact ⟨⟨_, rfl⟩, Or.inr ⟨_, trivial, HJx.out⟩⟩
  ·obtain rfl : k = n := by omega
   have hlt' : ¬ ((k : Int) < (k : Int)) := by omega
   have ht : xs.take k = xs := List.take_of_length_le (by rw [← Hn.out]; exact Nat.le_refl _)
   rw [ht] at HJ
   gi_wp2
   go_end0
   exact ⟨⟨_, rfl⟩, Or.inl HJ.out⟩
theorem txtinfo0 : (SlInfo Tryz.prog 41 9 (.string ⟨#[]⟩) 1 16) := ⟨Tryz.underlying41, by kernel_rfl, rfl, by decide⟩
theorem strinfo_parts : ∃ i, Tryz.prog.info? 9 = some i ∧ i.zero = some (.string ⟨#[]⟩) ∧ i.size = 1 ∧ i.bytes = 16 := info_parts txtinfo0.hi
set_option maxRecDepth 100000 in
set_option maxHeartbeats 4000000 in
theorem appendSeq_txt {w : World} {A : Option Addr} {n c : Nat} {xs : List Str} (h : SlR Rep.txt w (· < w.heap.size) A n c xs) (hn : n ≤ 1000000) (Bx : Nat) (hBx : Bx < w.heap.size) (hc : w.cell? ⟨Bx, 0, none⟩ = some (.slice A n c)) (m : Nat) (hm : 3 ≤ m) :
  CallsIn Fence.wide m Tryz.prog 135 #[.slice none 0 0, .func (.func 212) #[] #[.pointer (some ⟨Bx, 0, none⟩)]] w fun e w' => ∃ v, e = .returned v ∧ OwnT w' w.heap.size v xs ∧ Ext w w' := by
 have h1 : 1 ≤ m := by omega
 obtain ⟨i0, hi, hz0, hz1, hz2⟩ := strinfo_parts
 refine callsIn_of_wp_marks Tryz.func135 rfl trivial ?_ rfl
 simp only [Tryz.ntmps135, List.size_toArray, List.length_cons, List.length_nil, Nat.reduceAdd, Nat.reduceSub, Array.replicate_succ, Array.replicate_zero, List.push_toArray, List.append_toArray, List.nil_append, List.cons_append]
 gi_wp2
 have hB0 : Below w.heap.size w (w.alloc (.cells #[.slice none 0 0] 41)) := (Below.refl _ w).alloc (Nat.le_refl _) _
 have hbox := Boxed.new w 41 (.slice none 0 0)
 have hown0 : (w.alloc (.cells #[.slice none 0 0] 41)).ownsRow w.heap.size 9 1 (.slice none 0 0) 0 [] := World.ownsRow_nil _ _ _ _
 have hsz : (w.alloc (.cells #[.slice none 0 0] 41)).heap.size = w.heap.size + 1 := by simp
 generalize w.alloc (.cells #[.slice none 0 0] 41) = W0 at hB0 hbox hown0 hsz ⊢
 refine wpIn_rangeFunc_ownF rfl h1 (gf := 212) (lb := #[.pointer (some ⟨Bx, 0, none⟩)]) rfl trivial (enters_of Tryz.func212 (by kernel_rfl) rfl)
  (values_stops (txt_below h hB0) (by omega) Bx hBx ((hB0.cell (p := ⟨Bx, 0, none⟩) hBx).trans hc) (m - 1) (by omega)) belowK_t (belowK_b (by omega)) (Below.refl _ _) (fun _ => rfl)
  (fun (pre : List Str) W => (∃ v, Boxed W w.heap.size 41 v ∧ W.ownsRow w.heap.size 9 1 v pre.length (pre.map strV) ∧ True) ∧ Below w.heap.size w W)
  (fun _ _ _ => False)
  (OwnFrom.and (Own.from (holdsRow_own w.heap.size w.heap.size 41 9 1 (fun s : List Str => s.length) (fun s : List Str => s.map strV) (fun _ _ => True)) _) (ownFrom_below (Nat.le_refl _) (by omega)))
  (fun _ _ _ _ _ hs _ _ => hs)
  ⟨⟨_, hbox, hown0, trivial⟩, hB0⟩
  (fun x => { tmps := #[.slice none 0 0, .func (.func 212) #[] #[.pointer (some ⟨Bx, 0, none⟩)], .pointer (some ⟨w.heap.size, 0, none⟩), undef, .slice none 0 0, .string (str x), .func (.func 212) #[] #[.pointer (some ⟨Bx, 0, none⟩)], .string (str x), undef, undef, undef, undef, undef], defers := [] }) ?assign ?body ?done ?stop
 case assign =>
  intro l x W K hK
  gi_wp2
  exact hK
 case body =>
  rintro l pre x W ⟨⟨v, hv, hrow, -⟩, hB⟩ hlen
  have hcell := hv.cell
  have hsB := hB.size
  have HV := hid hv; have HR := hid hrow; have HB := hid hB
  clear hv hB
  gi_wp2_with (first
   | (gi_at_builtin; refine wpListIn_append_own _ rfl _ _ 41 rfl w.heap.size 9 i0 (.string ⟨#[]⟩) 1 16 Tryz.underlying41 hi hz0 hz1 hz2 rfl (by decide) _ _ _ rfl (hrow.alloc _) ⟨W.heap.size, 0, none⟩ 1 1 [strV x] rfl rfl (cell_one_new _ _ _) (by simp [Value.oneCell', strV]) (by simp only [maxLen]; omega) (by omega) (by simp; omega) ?_; intro v' w3 hown' hg3 hnil3; obtain ⟨g9, c9, rfl⟩ := ownsRow_succ hown'; have hap := Boxed.appended HV.out (by decide) HR.out HB.out.size (Nat.le_refl _) hown' hg3; have hc3 := hap.1.cell; have hf3 := hap.1.frozen; clear hown' hg3 hnil3; have HAP := hid hap; clear hap)
   | gi_in)
  exact ⟨HAP.out.2.2.2.1, HAP.out.2.2.2.2, ⟨⟨_, HAP.out.2.1, by have := HAP.out.2.2.1; simpa using this, trivial⟩, HB.out.trans HAP.out.2.2.2.2⟩⟩
 case done =>
  rintro D ys W hD rfl ⟨⟨v, hv, hrow, -⟩, hB⟩ hK
  have hcell := hv.cell
  gi_wp2
  refine ⟨by simp, .inl ⟨_, _, rfl, run_takeDeferred hK, ?_⟩⟩
  exact ⟨_, results_tmp rfl _ _ _, v, rfl, ownsRow_putObj hrow _ hK rfl, hB.trans (belowK_b (w := w) (Nat.le_refl _) W D _ _ (by omega) hK rfl rfl)⟩
 case stop =>
  rintro D c pre W _ _ h _
  exact h.elim
set_option maxRecDepth 100000 in
set_option maxHeartbeats 4000000 in
theorem sortedValues_txt {w : World} {A : Option Addr} {n c : Nat} {xs : List Str} (h : SlR Rep.txt w (· < w.heap.size) A n c xs) (hn : n ≤ 1000000) (Bx : Nat) (hBx : Bx < w.heap.size) (hc : w.cell? ⟨Bx, 0, none⟩ = some (.slice A n c)) :
  Calls Tryz.prog 50 #[.func (.func 212) #[] #[.pointer (some ⟨Bx, 0, none⟩)]] w fun e w' => ∃ v, e = .returned v ∧ OwnT w' w.heap.size v (xs.mergeSort fun x y => decide (x ≤ y)) ∧ Ext w w' := by
 have Hn := hid h.1
 have hap := callsIn_wide.1 (appendSeq_txt h hn Bx hBx hc 5 (by omega))
 have hl2 : (xs.mergeSort fun x y => decide (x ≤ y)).length = xs.length := List.length_mergeSort xs
 clear h hc
 have hcol : Calls Tryz.prog 96 #[.func (.func 212) #[] #[.pointer (some ⟨Bx, 0, none⟩)]] w fun e w' => ∃ v, e = .returned v ∧ OwnT w' w.heap.size v xs ∧ Ext w w' := by
  go_enter Tryz.func96, Tryz.ntmps96
  go_wp2_with fail
  refine hap.mono ?_
  rintro e w1 ⟨v, rfl, ho, hE⟩
  have HO := hid ho; have HE := hid hE
  clear hap ho hE
  go_wp2
  go_ret
  exact ⟨_, rfl, HO.out, HE.out⟩
 clear hap
 go_enter Tryz.func50, Tryz.ntmps50
 go_wp2_with fail
 refine hcol.mono ?_
 rintro e w1 ⟨v, rfl, ho, hE⟩
 have HE := hid hE
 clear hcol hE
 rcases ho.2 with ⟨rfl, hz⟩ | ⟨g, cap, cur, rfl, hb, hg, h1, h2, h3, h4⟩
 ·have hx : xs = [] := List.eq_nil_of_length_eq_zero hz
  subst hx
  have HO := hid ho
  clear ho
  go_wp2_with fail
  refine (Tryz.slices_Sort_string_none none 0 w1).mono ?_
  rintro e w2 ⟨rfl, rfl⟩
  go_wp2
  go_ret
  exact ⟨_, rfl, by simpa using HO.out, HE.out⟩
 ·have hH : Go.Sort.Holds encStr w1 g 0 xs.toArray := Go.holds_of_block hg (by have := h4; simp only [Nat.mul_one] at this; exact this)
  have hsort := Tryz.slices_Sort_string g 0 cap xs w1 hH (Array.getElem?_eq_some_iff.1 hg).1 (by have := Hn.out; omega)
  have hs := fun nn os => Go.ownsRow_sorted (n := nn) (os := os) (ts := xs.mergeSort fun x y => decide (x ≤ y)) hl2 hb hg h1 h2 h3
  have HS := hid hs
  have HB := hid hb
  have HL := hid (Array.getElem?_eq_some_iff.1 hg).1
  have Hl2 := hid hl2
  clear ho hg h1 h2 h3 h4 hH hs hb hl2
  generalize hm : xs.length = k at hsort HS ⊢
  go_wp2_with fail
  refine hsort.mono ?_
  rintro e w2 ⟨rfl, nn, os, rfl⟩
  have HO := hid (HS.out nn os)
  have HE2 := hid (HE.out.grown (Go.grownBy_sorted (w := w1) (g := g) (n := nn) (os := os) (xs.mergeSort fun x y => decide (x ≤ y)).toArray) HE.out.size (fun j hj => by cases hj; exact HB.out))
  generalize Go.Sort.grow (Go.Sort.putRow encStr (Go.Sort.ahead w1 nn) g 0 (xs.mergeSort fun x y => decide (x ≤ y)).toArray) os = w2 at HO HE2 ⊢
  clear HS hsort
  go_wp2
  go_ret
  exact ⟨_, rfl, by unfold OwnT; rw [Hl2.out, hm]; exact HO.out, HE2.out⟩
end Go.Proofs.YtakebdeldndaaaaGreatDoor
