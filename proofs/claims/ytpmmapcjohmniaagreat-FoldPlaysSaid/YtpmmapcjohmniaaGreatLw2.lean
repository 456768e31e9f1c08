/- The laws' helpers: Same, entries, shown. -/
import Derived.Test.YtpmmapcjohmniaaGreatLw1
import Derived.Laws.StructEq
namespace Go.Proofs.YtpmmapcjohmniaaGreat
open Go Go.RowKit
set_option linter.unusedSimpArgs false
set_option linter.unusedVariables false

set_option maxRecDepth 100000 in
set_option maxHeartbeats 2000000 in
theorem same_at {w : World} {K K' : Nat → Prop} {A B : Option Addr} {n c m d : Nat} {l r : Ents} (h : SlR REnt w K A n c l) (h' : SlR REnt w K' B m d r) :
    Calls Tryz.prog 14 #[.slice A n c, .slice B m d] w fun e w' => e = .returned (.bool (decide (l = r))) ∧ Ext w w' := by
  have hn := hid h.1; have hm := hid h'.1
  have hnc := h.2.1
  have hcm := h.2.2.1
  have hnc' := h'.2.1
  have hcm' := h'.2.2.1
  have H := hid h; have H' := hid h'
  clear h h'
  have hgd : ∀ (op : BinOp) (x y : Operand) (xs ys : Array Value) (w : World), (eqGuard op 57 x y (.agg xs) (.agg ys)).run Tryz.prog w = .ok () w := fun op x y xs ys w => run_eqGuard_agg w op _ x y xs ys (by kernel_rfl)
  have Hgd := hid hgd
  clear hgd
  go_enter Tryz.func14, Tryz.ntmps14
  by_cases hne : n = m
  rotate_left
  · have hne' : ¬ ((n : Int) = (m : Int)) := by omega
    have hneb : ((n : Int) == (m : Int)) = false := beq_eq_false_iff_ne.2 hne'
    have hr := hid (show decide (l = r) = false from decide_eq_false fun e => hne (by rw [hn.out, hm.out, e]))
    go_wp2
    go_ret
    exact ⟨by rw [hr.out]; rfl, Below.refl _ _⟩
  subst hne
  go_wp2_with fail
  go_loopw [5] (fun i wr => ∃ k : Nat, k ≤ n ∧ i = .int .i64 (k : Int) ∧ Hid (Ext w wr) ∧ Hid (∀ j, j < k → l[j]? = r[j]?)) (fun i _ => n - (intOf i).toNat)
  case atStart => exact ⟨0, by omega, rfl, Below.refl _ _, fun j hj => by omega⟩
  case round =>
    obtain ⟨k, hk, rfl, HE, HN⟩ := hrel
    by_cases hlt : k < n
    · have hkx : k < l.length := by have := hn.out; omega
      have hky : k < r.length := by have := hm.out; omega
      have hlt' : (k : Int) < (n : Int) := by omega
      have hk00 : ¬ ((k : Int) < 0) := by omega
      have hk0 : (0 : Int) ≤ (k : Int) := by omega
      obtain ⟨b, o, rfl, -, f0, f1, -⟩ := field_at H.out k hkx
      obtain ⟨b', o', rfl, -, g0, g1, -⟩ := field_at H'.out k hky
      have HF := hid (And.intro (cell_below HE.out f0) (And.intro (cell_below HE.out f1) (And.intro (cell_below HE.out g0) (cell_below HE.out g1))))
      have Hl := hid (show l[k]? = some (l[k].1, l[k].2) from List.getElem?_eq_getElem hkx)
      have Hr := hid (show r[k]? = some (r[k].1, r[k].2) from List.getElem?_eq_getElem hky)
      clear f0 f1 g0 g1
      generalize l[k].1 = x at *
      generalize l[k].2 = u at *
      generalize r[k].1 = y at *
      generalize r[k].2 = z at *
      have Heq := hid (show decide ((x, u) = (y, z)) = decide (l[k]? = r[k]?) by rw [Hl.out, Hr.out]; simp)
      go_wp2_with fail
      apply wp_drawn [isV _, isV _, isV _, isV _, isV _, isV _, isV _, isV _, isV (.bool (!(decide (l[k]? = r[k]?))))] (by kernel_rfl)
      · kernel_rfl
      · refine ⟨?sms0, ?sms1, ?sms2, ?sms3, ?sms4, ?sms5, ?sms6, ?sms7, ?sms8, trivial⟩
        case sms0 =>
          intro v W hE hd; simp only [Region.wanted, ↓reduceIte]; (try simp [deps, waitsOn, Region.binds, knowing, isV, ownsV, anyV] at hd); simp only [putAll, List.take_succ_cons, List.take_zero, List.drop_succ_cons, List.drop_zero, Act.put, List.setIfInBounds_toArray, List.set_cons_zero, List.set_cons_succ, Nat.zero_add, Nat.reduceAdd]; go_simp; exact ⟨Below.refl _ _, rfl⟩
        case sms1 =>
          intro v W hE hd; simp only [Region.wanted, ↓reduceIte]; (try simp [deps, waitsOn, Region.binds, knowing, isV, ownsV, anyV] at hd); simp only [putAll, List.take_succ_cons, List.take_zero, List.drop_succ_cons, List.drop_zero, Act.put, List.setIfInBounds_toArray, List.set_cons_zero, List.set_cons_succ, Nat.zero_add, Nat.reduceAdd]; go_simp; exact ⟨Below.refl _ _, rfl⟩
        case sms2 =>
          intro v W hE hd; simp only [Region.wanted, ↓reduceIte]; (try simp [deps, waitsOn, Region.binds, knowing, isV, ownsV, anyV] at hd); simp only [putAll, List.take_succ_cons, List.take_zero, List.drop_succ_cons, List.drop_zero, Act.put, List.setIfInBounds_toArray, List.set_cons_zero, List.set_cons_succ, Nat.zero_add, Nat.reduceAdd]; go_simp; exact ⟨Below.refl _ _, rfl⟩
        case sms3 =>
          intro v W hE hd; simp only [Region.wanted, ↓reduceIte]; (try simp [deps, waitsOn, Region.binds, knowing, isV, ownsV, anyV] at hd); simp only [putAll, List.take_succ_cons, List.take_zero, List.drop_succ_cons, List.drop_zero, Act.put, List.setIfInBounds_toArray, List.set_cons_zero, List.set_cons_succ, Nat.zero_add, Nat.reduceAdd]
          obtain ⟨f0, f1, g0, g1⟩ := HF.out
          have e0 := cell_below hE f0; have e1 := cell_below hE f1
          go_simp
          exact ⟨Below.refl _ _, rfl⟩
        case sms4 =>
          intro v W hE hd; simp only [Region.wanted, ↓reduceIte]; (try simp [deps, waitsOn, Region.binds, knowing, isV, ownsV, anyV] at hd); simp only [putAll, List.take_succ_cons, List.take_zero, List.drop_succ_cons, List.drop_zero, Act.put, List.setIfInBounds_toArray, List.set_cons_zero, List.set_cons_succ, Nat.zero_add, Nat.reduceAdd]; go_simp; exact ⟨Below.refl _ _, rfl⟩
        case sms5 =>
          intro v W hE hd; simp only [Region.wanted, ↓reduceIte]; (try simp [deps, waitsOn, Region.binds, knowing, isV, ownsV, anyV] at hd); simp only [putAll, List.take_succ_cons, List.take_zero, List.drop_succ_cons, List.drop_zero, Act.put, List.setIfInBounds_toArray, List.set_cons_zero, List.set_cons_succ, Nat.zero_add, Nat.reduceAdd]; go_simp; exact ⟨Below.refl _ _, rfl⟩
        case sms6 =>
          intro v W hE hd; simp only [Region.wanted, ↓reduceIte]; (try simp [deps, waitsOn, Region.binds, knowing, isV, ownsV, anyV] at hd); simp only [putAll, List.take_succ_cons, List.take_zero, List.drop_succ_cons, List.drop_zero, Act.put, List.setIfInBounds_toArray, List.set_cons_zero, List.set_cons_succ, Nat.zero_add, Nat.reduceAdd]; go_simp; exact ⟨Below.refl _ _, rfl⟩
        case sms7 =>
          intro v W hE hd; simp only [Region.wanted, ↓reduceIte]; (try simp [deps, waitsOn, Region.binds, knowing, isV, ownsV, anyV] at hd); simp only [putAll, List.take_succ_cons, List.take_zero, List.drop_succ_cons, List.drop_zero, Act.put, List.setIfInBounds_toArray, List.set_cons_zero, List.set_cons_succ, Nat.zero_add, Nat.reduceAdd]
          obtain ⟨f0, f1, g0, g1⟩ := HF.out
          have e0 := cell_below hE g0; have e1 := cell_below hE g1
          go_simp
          exact ⟨Below.refl _ _, rfl⟩
        case sms8 =>
          intro v W hE hd; simp only [Region.wanted, ↓reduceIte]; (try simp [deps, waitsOn, Region.binds, knowing, isV, ownsV, anyV] at hd); simp only [putAll, List.take_succ_cons, List.take_zero, List.drop_succ_cons, List.drop_zero, Act.put, List.setIfInBounds_toArray, List.set_cons_zero, List.set_cons_succ, Nat.zero_add, Nat.reduceAdd]
          have Heq2 := Heq
          by_cases hxy : x = y
          · have h1 : (str x).toList = (str y).toList := by rw [hxy]
            by_cases huz : u = z
            · have hq : decide (l[k]? = r[k]?) = true := by rw [← Heq.out]; exact decide_eq_true (by rw [hxy, huz])
              rw [hq]
              go_simp
              exact ⟨Below.refl _ _, rfl⟩
            · have hq : decide (l[k]? = r[k]?) = false := by rw [← Heq.out]; exact decide_eq_false fun e => huz (by injection e)
              rw [hq]
              go_simp
              exact ⟨Below.refl _ _, rfl⟩
          · have h1 : ¬ ((str x).toList = (str y).toList) := by rw [str_toList, str_toList]; exact hxy
            have hq : decide (l[k]? = r[k]?) = false := by rw [← Heq.out]; exact decide_eq_false fun e => hxy (by injection e)
            rw [hq]
            go_simp
            exact ⟨Below.refl _ _, rfl⟩
      · rintro v W6 hE ⟨-, -, -, -, -, -, -, -, e8, -⟩
        have e8 := (show v 8 = _ from e8)
        simp only [putAll, List.take_succ_cons, List.take_zero, List.drop_succ_cons, List.drop_zero, Act.put, List.setIfInBounds_toArray, List.set_cons_zero, List.set_cons_succ, Nat.zero_add, Nat.reduceAdd]
        rw [e8]
        clear e8
        by_cases hx : l[k]? = r[k]?
        · have hx2 : decide (l[k]? = r[k]?) = true := decide_eq_true hx
          rw [hx2]
          have hn2 := hid (show ∀ j, j < k + 1 → l[j]? = r[j]? from fun j hj => (Nat.lt_succ_iff_lt_or_eq.1 hj).elim (HN.out j) fun e => e ▸ hx)
          have HE2 := hid (HE.out.trans' hE)
          clear hx hx2 hE
          go_wp2_with fail
          go_roundw
          case rel => exact ⟨k + 1, by omega, by go_num, HE2, hn2⟩
          case measure => simp [intOf]; omega
        · have hx2 : decide (l[k]? = r[k]?) = false := decide_eq_false hx
          rw [hx2]
          have hr := hid (show decide (l = r) = false from decide_eq_false fun e => hx (by rw [e]))
          have HE2 := hid (HE.out.trans' hE)
          clear hx hx2 hE
          go_wp2
          go_ret
          exact ⟨by rw [hr.out]; rfl, HE2.out⟩
    · obtain rfl : k = n := by omega
      have hlt' : ¬ ((k : Int) < (k : Int)) := by omega
      have hr := hid (show decide (l = r) = true from decide_eq_true (List.ext_getElem? fun j => by
        by_cases hj : j < k
        · exact HN.out j hj
        · rw [List.getElem?_eq_none (by have := hn.out; omega), List.getElem?_eq_none (by have := hm.out; omega)]))
      go_wp2
      go_ret
      exact ⟨by rw [hr.out]; rfl, HE.out⟩
theorem slR_take {α : Type} {R : Rep α} {w : World} {K : Nat → Prop} {A : Option Addr} {n c : Nat} {xs : List α} (h : SlR R w K A n c xs) (k : Nat) (hk : k ≤ n) : SlR R w K A k c (xs.take k) := by
  obtain ⟨h1, h2, h3, cs, hr, hv⟩ := h
  refine ⟨by rw [List.length_take]; omega, by omega, h3, _, hr.take k, ?_⟩
  rcases hv with h | ⟨b, o, e, kb, h⟩
  · exact .inl (by rw [h, List.take_nil])
  · refine .inr ⟨b, o, e, kb, fun j v hv => h j v ?_⟩
    rw [List.getElem?_take] at hv
    split at hv
    · exact hv
    · cases hv
def firstE (l : Ents) : Ents := l.take 30
set_option maxRecDepth 100000 in
theorem lawEntries_at {w : World} {K : Nat → Prop} {A : Option Addr} {n c : Nat} {l : Ents} (h : SlR REnt w K A n c l) :
    Calls Tryz.prog 8 #[.slice A n c] w fun e w' => ∃ n' c', e = .returned (.slice A n' c') ∧ SlR REnt w K A n' c' (firstE l) ∧ w' = w := by
  have hn := hid h.1
  have hnc := h.2.1
  have hcm := h.2.2.1
  have H := hid h
  go_enter Tryz.func8, Tryz.ntmps8
  by_cases h30 : 30 < n
  · have g : (30 : Int) < (n : Int) := by omega
    go_wp2
    go_ret
    exact ⟨_, _, rfl, by have := slR_take H.out 30 (by omega); exact this, rfl⟩
  · have g : ¬ ((30 : Int) < (n : Int)) := by omega
    have hf := hid (show firstE l = l from List.take_of_length_le (by have := hn.out; omega))
    go_wp2
    go_ret
    exact ⟨_, _, rfl, by rw [hf.out]; exact H.out, rfl⟩
theorem slR_nil {α : Type} {R : Rep α} (w : World) (K : Nat → Prop) : SlR R w K none 0 0 [] := ⟨rfl, Nat.le_refl _, by decide, [], rfl, .inl rfl⟩
theorem slR_box {α : Type} {R : Rep α} {w : World} {K : Nat → Prop} {x : α} {cs : List Value} {t : TypeId} (h : R.rel (w.alloc (.cells cs.toArray t)) K x cs) (hK : K w.heap.size) : SlR R (w.alloc (.cells cs.toArray t)) K (some ⟨w.heap.size, 0, none⟩) 1 1 [x] :=
  ⟨rfl, Nat.le_refl _, by decide, cs, Rows.single h, .inr ⟨_, _, rfl, hK, fun j v hv => by rw [Nat.zero_add]; exact cells_new w cs t j v hv⟩⟩
def exD : DefV := ⟨2, [110], [allC]⟩
def ex1 : EvV := ⟨[115], [116], [], [([110], 5)]⟩
def ex2 : EvV := ⟨[115], [116], [], []⟩
def ex3 : EvV := ⟨[115], [116], [], [([110], -2)]⟩
theorem ex_may : mayDef exD = 0 := by decide
theorem ex_1 : (StepF exD ex1 []).2 = [([], 5)] := by decide
theorem ex_2 : (StepF exD ex2 [([], 5)]).2 = [([], 5)] := by decide
theorem ex_3 : (StepF exD ex3 [([], 5)]).2 = [([], 3)] := by decide
theorem small_ex (n : Int) (h : -1125899906842624 ≤ n ∧ n ≤ 1125899906842624) : SmallE ⟨[115], [116], [], [([110], n)]⟩ := ⟨by simp, by simp, by simp, by simpa using h⟩
theorem small_ex2 : SmallE ex2 := ⟨by decide, by simp [ex2], by simp [ex2], by simp [ex2]⟩
/-- An event whose one field lies in a box of its own. -/
theorem evS_box {w : World} {S : Nat → Prop} (n : Int) (hS : ¬ S w.heap.size) : EvS (w.alloc (.cells #[.string { data := #[110] }, .int .i64 n] 55)) S none 0 0 (some ⟨w.heap.size, 0, none⟩) 1 1 ⟨[115], [116], [], [([110], n)]⟩ :=
  ⟨(by decide : [115].length ≤ 9223372036854775807), (by decide : [116].length ≤ 9223372036854775807), slR_nil _ _, slR_box (cs := [.string { data := #[110] }, .int .i64 n]) (R := RField) (x := ([110], n)) (field_mk (f := ([110], n)) (by decide : [110].length ≤ 9223372036854775807)) ⟨by simp, hS⟩⟩
theorem evS_none {w : World} {S : Nat → Prop} : EvS w S none 0 0 none 0 0 ex2 := ⟨(by decide : [115].length ≤ 9223372036854775807), (by decide : [116].length ≤ 9223372036854775807), slR_nil _ _, slR_nil _ _⟩
set_option maxRecDepth 100000 in
set_option maxHeartbeats 2000000 in
theorem shown_at (w : World) : Calls Tryz.prog 4 #[] w fun e w' => e = .returned (.bool true) ∧ Ext w w' := by
  go_enter Tryz.func4, Tryz.ntmps4
  go_wp2_with fail
  refine (all_at w).mono ?_
  rintro e wa ⟨Aa, rfl, hA, hEa⟩
  have HA := hid (show SlR RCl wa (· < wa.heap.size) Aa 1 1 [allC] from hA.mono fun k hk => hk.2); have HEa := hid hEa
  clear hA hEa
  go_wp2_with fail
  have hnew := foldNew_at (d := exD) HA.out
  unfold defVal at hnew
  refine hnew.mono ?_
  clear hnew
  rintro e w1 ⟨hEb, hres⟩
  rcases hres with ⟨h, -⟩ | ⟨-, s, m, rfl, hss, hms, hN⟩
  · exact absurd ex_may h
  have HEs := hid (HEa.out.trans' hEb); have HNs := hid hN
  have hss := Nat.le_trans HEa.out.size hss
  have hms := Nat.le_trans HEa.out.size hms
  clear hEb hN HA HEa
  have HS := hid (HNs.out.is (S := fun k => k = s ∨ k = m) (fun k hk => .inr hk) (.inl rfl) (.inr rfl))
  clear HNs
  go_wp2_with fail
  have HS1 := hid (HS.out.ext (ext_alloc w1 (.cells #[.string { data := #[110] }, .int .i64 5] 55)))
  have hst := step_at (p := 0) (vr := 0) HS1.out (evS_box 5 (fun h => by have := HS.out.lt; rcases h with h | h <;> omega)) (small_ex 5 (by decide)) (by decide) (fun p hp => by simp at hp)
  unfold recVal at hst
  refine hst.mono ?_
  clear hst
  rintro e w2 ⟨rfl, hS2, hK2⟩
  rw [show (StepF exD ⟨[115], [116], [], [([110], 5)]⟩ []).2 = [([], 5)] from ex_1] at hS2
  have HS2 := hid hS2
  have HE2 := hid (HEs.out.trans (((ext_alloc w1 (.cells #[.string { data := #[110] }, .int .i64 5] 55)).mono HEs.out.size).trans (hK2.below hss hms (Nat.le_trans HEs.out.size (ext_alloc w1 _).size))))
  clear hS2 hK2
  generalize (StepF exD ⟨[115], [116], [], [([110], 5)]⟩ []).1 = z1
  go_wp2_with fail
  have hst := step_at (p := 0) (vr := 0) HS2.out evS_none small_ex2 (by decide) (fun p hp => by simp at hp; subst hp; decide)
  unfold recVal ex2 at hst
  refine hst.mono ?_
  clear hst
  rintro e w3 ⟨rfl, hS3, hK3⟩
  rw [show (StepF exD ⟨[115], [116], [], []⟩ [([], 5)]).2 = [([], 5)] from ex_2] at hS3
  have HS3 := hid hS3
  have HE3 := hid (HE2.out.trans (hK3.below hss hms HE2.out.size))
  clear hS3 hK3
  generalize (StepF exD ⟨[115], [116], [], []⟩ [([], 5)]).1 = z2
  go_wp2_with fail
  have HS4 := hid (HS3.out.ext (ext_alloc w3 (.cells #[.string { data := #[110] }, .int .i64 (-2)] 55)))
  have hst := step_at (p := 0) (vr := 0) HS4.out (evS_box (-2) (fun h => by have := HS3.out.lt; rcases h with h | h <;> omega)) (small_ex (-2) (by decide)) (by decide) (fun p hp => by simp at hp; subst hp; decide)
  unfold recVal at hst
  refine hst.mono ?_
  clear hst
  rintro e w4 ⟨rfl, hS5, hK5⟩
  rw [show (StepF exD ⟨[115], [116], [], [([110], -2)]⟩ [([], 5)]).2 = [([], 3)] from ex_3] at hS5
  have HS5 := hid hS5
  have HE5 := hid (HE3.out.trans (((ext_alloc w3 (.cells #[.string { data := #[110] }, .int .i64 (-2)] 55)).mono HE3.out.size).trans (hK5.below hss hms (Nat.le_trans HE3.out.size (ext_alloc w3 _).size))))
  clear hS5 hK5
  generalize (StepF exD ⟨[115], [116], [], [([110], -2)]⟩ [([], 5)]).1 = z3
  go_wp2_with fail
  refine (entries_at HS5.out (by decide)).mono ?_
  rintro e w5 ⟨v, rfl, hO, hE⟩
  obtain ⟨g, c, rfl, -, -, -, hc1, hc2, hg⟩ := hO.at_ (by decide)
  obtain ⟨dd, hd, hcell⟩ := hg 0 (by decide)
  obtain ⟨rfl, -⟩ := field_rel hd
  have f0 : w5.cell? ⟨g, 0, none⟩ = some (.string { data := #[] }) := hcell 0 _ rfl
  have f1 : w5.cell? ⟨g, 1, none⟩ = some (.int .i64 3) := hcell 1 _ rfl
  have HE6 := hid (HE5.out.trans (hE.mono HE5.out.size))
  clear hO hg hd hcell hE
  have hl1 : ([([], 3)] : Ents).length = 1 := rfl
  rw [hl1] at hc1 ⊢
  have hgd : ∀ (op : BinOp) (x y : Operand) (xs ys : Array Value) (w : World), (eqGuard op 57 x y (.agg xs) (.agg ys)).run Tryz.prog w = .ok () w := fun op x y xs ys w => run_eqGuard_agg w op _ x y xs ys (by kernel_rfl)
  go_wp2
  go_ret
  exact ⟨rfl, HE6.out⟩
end Go.Proofs.YtpmmapcjohmniaaGreat
