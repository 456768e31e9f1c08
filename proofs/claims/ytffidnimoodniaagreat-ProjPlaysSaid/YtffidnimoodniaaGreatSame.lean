/- Same rows of entries. -/
import Derived.Test.YtffidnimoodniaaGreatBas15
import Derived.Laws.StructEq
namespace Go.Proofs.YtffidnimoodniaaGreat
open Go Go.RowKit
set_option linter.unusedSimpArgs false
set_option linter.unusedVariables false

set_option maxRecDepth 100000 in
set_option maxHeartbeats 2000000 in
theorem same_at {w : World} {K K' : Nat → Prop} {A B : Option Addr} {n c m d : Nat} {l r : Ents} (h : SlR REnt w K A n c l) (h' : SlR REnt w K' B m d r) :
    Calls Tryz.prog 13 #[.slice A n c, .slice B m d] w fun e w' => e = .returned (.bool (decide (l = r))) ∧ Ext w w' := by
  have hn := hid h.1; have hm := hid h'.1
  have hnc := h.2.1
  have hcm := h.2.2.1
  have hnc' := h'.2.1
  have hcm' := h'.2.2.1
  have H := hid h; have H' := hid h'
  clear h h'
  have hgd : ∀ (op : BinOp) (x y : Operand) (xs ys : Array Value) (w : World), (eqGuard op 64 x y (.agg xs) (.agg ys)).run Tryz.prog w = .ok () w := fun op x y xs ys w => run_eqGuard_agg w op _ x y xs ys (by kernel_rfl)
  have Hgd := hid hgd
  clear hgd
  go_enter Tryz.func13, Tryz.ntmps13
  by_cases hne : n = m
  rotate_left
  · have hne' : ¬ ((n : Int) = (m : Int)) := by omega
    have hneb : ((n : Int) == (m : Int)) = false := beq_eq_false_iff_ne.2 hne'
    have hr := hid (show decide (l = r) = false from decide_eq_false fun e => hne (by rw [hn.out, hm.out, e]))
    go_wp2
    go_ret
    exact ⟨by rw [hr.out]; rfl, Below.refl _ _⟩
  subst hne
  go_wp2_with fail
  go_loopw [5] (fun i wr => ∃ k : Nat, k ≤ n ∧ i = .int .i64 (k : Int) ∧ Hid (Ext w wr) ∧ Hid (∀ j, j < k → l[j]? = r[j]?)) (fun i _ => n - (intOf i).toNat)
  case atStart => exact ⟨0, by omega, rfl, Below.refl _ _, fun j hj => by omega⟩
  case round =>
    obtain ⟨k, hk, rfl, HE, HN⟩ := hrel
    by_cases hlt : k < n
    · have hkx : k < l.length := by have := hn.out; omega
      have hky : k < r.length := by have := hm.out; omega
      have hlt' : (k : Int) < (n : Int) := by omega
      have hk00 : ¬ ((k : Int) < 0) := by omega
      have hk0 : (0 : Int) ≤ (k : Int) := by omega
      obtain ⟨b, o, rfl, -, f0, f1, -⟩ := field_at H.out k hkx
      obtain ⟨b', o', rfl, -, g0, g1, -⟩ := field_at H'.out k hky
      have HF := hid (And.intro (cell_below HE.out f0) (And.intro (cell_below HE.out f1) (And.intro (cell_below HE.out g0) (cell_below HE.out g1))))
      have Hl := hid (show l[k]? = some (l[k].1, l[k].2) from List.getElem?_eq_getElem hkx)
      have Hr := hid (show r[k]? = some (r[k].1, r[k].2) from List.getElem?_eq_getElem hky)
      clear f0 f1 g0 g1
      generalize l[k].1 = x at *
      generalize l[k].2 = u at *
      generalize r[k].1 = y at *
      generalize r[k].2 = z at *
      have Heq := hid (show decide ((x, u) = (y, z)) = decide (l[k]? = r[k]?) by rw [Hl.out, Hr.out]; simp)
      go_wp2_with fail
      apply wp_drawn [isV _, isV _, isV _, isV _, isV _, isV _, isV _, isV _, isV (.bool (!(decide (l[k]? = r[k]?))))] (by kernel_rfl)
      · kernel_rfl
      · refine ⟨?sms0, ?sms1, ?sms2, ?sms3, ?sms4, ?sms5, ?sms6, ?sms7, ?sms8, trivial⟩
        case sms0 =>
          intro v W hE hd; simp only [Region.wanted, ↓reduceIte]; (try simp [deps, waitsOn, Region.binds, knowing, isV, ownsV, anyV] at hd); simp only [putAll, List.take_succ_cons, List.take_zero, List.drop_succ_cons, List.drop_zero, Act.put, List.setIfInBounds_toArray, List.set_cons_zero, List.set_cons_succ, Nat.zero_add, Nat.reduceAdd]; go_simp; exact ⟨Below.refl _ _, rfl⟩
        case sms1 =>
          intro v W hE hd; simp only [Region.wanted, ↓reduceIte]; (try simp [deps, waitsOn, Region.binds, knowing, isV, ownsV, anyV] at hd); simp only [putAll, List.take_succ_cons, List.take_zero, List.drop_succ_cons, List.drop_zero, Act.put, List.setIfInBounds_toArray, List.set_cons_zero, List.set_cons_succ, Nat.zero_add, Nat.reduceAdd]; go_simp; exact ⟨Below.refl _ _, rfl⟩
        case sms2 =>
          intro v W hE hd; simp only [Region.wanted, ↓reduceIte]; (try simp [deps, waitsOn, Region.binds, knowing, isV, ownsV, anyV] at hd); simp only [putAll, List.take_succ_cons, List.take_zero, List.drop_succ_cons, List.drop_zero, Act.put, List.setIfInBounds_toArray, List.set_cons_zero, List.set_cons_succ, Nat.zero_add, Nat.reduceAdd]; go_simp; exact ⟨Below.refl _ _, rfl⟩
        case sms3 =>
          intro v W hE hd; simp only [Region.wanted, ↓reduceIte]; (try simp [deps, waitsOn, Region.binds, knowing, isV, ownsV, anyV] at hd); simp only [putAll, List.take_succ_cons, List.take_zero, List.drop_succ_cons, List.drop_zero, Act.put, List.setIfInBounds_toArray, List.set_cons_zero, List.set_cons_succ, Nat.zero_add, Nat.reduceAdd]
          obtain ⟨f0, f1, g0, g1⟩ := HF.out
          have e0 := cell_below hE f0; have e1 := cell_below hE f1
          go_simp
          exact ⟨Below.refl _ _, rfl⟩
        case sms4 =>
          intro v W hE hd; simp only [Region.wanted, ↓reduceIte]; (try simp [deps, waitsOn, Region.binds, knowing, isV, ownsV, anyV] at hd); simp only [putAll, List.take_succ_cons, List.take_zero, List.drop_succ_cons, List.drop_zero, Act.put, List.setIfInBounds_toArray, List.set_cons_zero, List.set_cons_succ, Nat.zero_add, Nat.reduceAdd]; go_simp; exact ⟨Below.refl _ _, rfl⟩
        case sms5 =>
          intro v W hE hd; simp only [Region.wanted, ↓reduceIte]; (try simp [deps, waitsOn, Region.binds, knowing, isV, ownsV, anyV] at hd); simp only [putAll, List.take_succ_cons, List.take_zero, List.drop_succ_cons, List.drop_zero, Act.put, List.setIfInBounds_toArray, List.set_cons_zero, List.set_cons_succ, Nat.zero_add, Nat.reduceAdd]; go_simp; exact ⟨Below.refl _ _, rfl⟩
        case sms6 =>
          intro v W hE hd; simp only [Region.wanted, ↓reduceIte]; (try simp [deps, waitsOn, Region.binds, knowing, isV, ownsV, anyV] at hd); simp only [putAll, List.take_succ_cons, List.take_zero, List.drop_succ_cons, List.drop_zero, Act.put, List.setIfInBounds_toArray, List.set_cons_zero, List.set_cons_succ, Nat.zero_add, Nat.reduceAdd]; go_simp; exact ⟨Below.refl _ _, rfl⟩
        case sms7 =>
          intro v W hE hd; simp only [Region.wanted, ↓reduceIte]; (try simp [deps, waitsOn, Region.binds, knowing, isV, ownsV, anyV] at hd); simp only [putAll, List.take_succ_cons, List.take_zero, List.drop_succ_cons, List.drop_zero, Act.put, List.setIfInBounds_toArray, List.set_cons_zero, List.set_cons_succ, Nat.zero_add, Nat.reduceAdd]
          obtain ⟨f0, f1, g0, g1⟩ := HF.out
          have e0 := cell_below hE g0; have e1 := cell_below hE g1
          go_simp
          exact ⟨Below.refl _ _, rfl⟩
        case sms8 =>
          intro v W hE hd; simp only [Region.wanted, ↓reduceIte]; (try simp [deps, waitsOn, Region.binds, knowing, isV, ownsV, anyV] at hd); simp only [putAll, List.take_succ_cons, List.take_zero, List.drop_succ_cons, List.drop_zero, Act.put, List.setIfInBounds_toArray, List.set_cons_zero, List.set_cons_succ, Nat.zero_add, Nat.reduceAdd]
          have Heq2 := Heq
          by_cases hxy : x = y
          · have h1 : (str x).toList = (str y).toList := by rw [hxy]
            by_cases huz : u = z
            · have hq : decide (l[k]? = r[k]?) = true := by rw [← Heq.out]; exact decide_eq_true (by rw [hxy, huz])
              rw [hq]
              go_simp
              exact ⟨Below.refl _ _, rfl⟩
            · have hq : decide (l[k]? = r[k]?) = false := by rw [← Heq.out]; exact decide_eq_false fun e => huz (by injection e)
              rw [hq]
              go_simp
              exact ⟨Below.refl _ _, rfl⟩
          · have h1 : ¬ ((str x).toList = (str y).toList) := by rw [str_toList, str_toList]; exact hxy
            have hq : decide (l[k]? = r[k]?) = false := by rw [← Heq.out]; exact decide_eq_false fun e => hxy (by injection e)
            rw [hq]
            go_simp
            exact ⟨Below.refl _ _, rfl⟩
      · rintro v W6 hE ⟨-, -, -, -, -, -, -, -, e8, -⟩
        have e8 := (show v 8 = _ from e8)
        simp only [putAll, List.take_succ_cons, List.take_zero, List.drop_succ_cons, List.drop_zero, Act.put, List.setIfInBounds_toArray, List.set_cons_zero, List.set_cons_succ, Nat.zero_add, Nat.reduceAdd]
        rw [e8]
        clear e8
        by_cases hx : l[k]? = r[k]?
        · have hx2 : decide (l[k]? = r[k]?) = true := decide_eq_true hx
          rw [hx2]
          have hn2 := hid (show ∀ j, j < k + 1 → l[j]? = r[j]? from fun j hj => (Nat.lt_succ_iff_lt_or_eq.1 hj).elim (HN.out j) fun e => e ▸ hx)
          have HE2 := hid (HE.out.trans' hE)
          clear hx hx2 hE
          go_wp2_with fail
          go_roundw
          case rel => exact ⟨k + 1, by omega, by go_num, HE2, hn2⟩
          case measure => simp [intOf]; omega
        · have hx2 : decide (l[k]? = r[k]?) = false := decide_eq_false hx
          rw [hx2]
          have hr := hid (show decide (l = r) = false from decide_eq_false fun e => hx (by rw [e]))
          have HE2 := hid (HE.out.trans' hE)
          clear hx hx2 hE
          go_wp2
          go_ret
          exact ⟨by rw [hr.out]; rfl, HE2.out⟩
    · obtain rfl : k = n := by omega
      have hlt' : ¬ ((k : Int) < (k : Int)) := by omega
      have hr := hid (show decide (l = r) = true from decide_eq_true (List.ext_getElem? fun j => by
        by_cases hj : j < k
        · exact HN.out j hj
        · rw [List.getElem?_eq_none (by have := hn.out; omega), List.getElem?_eq_none (by have := hm.out; omega)]))
      go_wp2
      go_ret
      exact ⟨by rw [hr.out]; rfl, HE.out⟩
end Go.Proofs.YtffidnimoodniaaGreat
