/- Texts that rise, by the program and by the document; tags. -/
import Derived.Test.YtakebdeldndaaaaGreatEv1
import Derived.Test.YtakebdeldndaaaaGreatOrd
namespace Go.Proofs.YtakebdeldndaaaaGreat
open Go Go.RowKit
set_option linter.unusedSimpArgs false
set_option linter.unusedVariables false

set_option maxRecDepth 100000 in
set_option maxHeartbeats 4000000 in
theorem refRise_at {w : World} {A : Option Addr} {n c : Nat} {xs : List Str} (h : SlR Rep.txt w (· < w.heap.size) A n c xs) :
    Calls Tryz.prog 40 #[.slice A n c] w fun e w' => e = .returned (.bool (riseB xs)) ∧ Ext w w' := by
  have hn := hid h.1
  have hnc := h.2.1
  have hcm := h.2.2.1
  have hst := str_toList
  have H := hid h
  clear h
  go_enter Tryz.func40, Tryz.ntmps40
  go_wp2_with fail
  go_loopw [3] (fun i wr => ∃ k : Nat, 1 ≤ k ∧ (k ≤ n ∨ k = 1) ∧ i = .int .i64 (k : Int) ∧ Hid (Ext w wr) ∧ Hid (∀ i (h : i + 1 < xs.length), i + 1 < k → bytesBefore (xs[i]'(by omega)) (xs[i + 1]'h) = true)) (fun i _ => n + 1 - (intOf i).toNat)
  case atStart => exact ⟨1, by omega, .inr rfl, rfl, Below.refl _ _, fun i _ hi => by omega⟩
  case round =>
    obtain ⟨k, hk1, hk, rfl, HE, HN⟩ := hrel
    by_cases hlt : k < n
    · have hkx : k - 1 + 1 < xs.length := by have := hn.out; omega
      have hlt' : (k : Int) < (n : Int) := by omega
      have hk00 : ¬ ((k : Int) < 0) := by omega
      have hk0 : (0 : Int) ≤ (k : Int) := by omega
      obtain ⟨b, o, rfl, -, f1, -⟩ := txt_at (H.out.grow HE.out) (k - 1) (by omega)
      obtain ⟨b2, o2, e2, -, f2, -⟩ := txt_at (H.out.grow HE.out) (k - 1 + 1) hkx
      simp only [Option.some.injEq, Addr.mk.injEq, and_true] at e2
      obtain ⟨rfl, rfl⟩ := e2
      cases hb : bytesBefore (xs[k - 1]'(by omega)) (xs[k - 1 + 1]'hkx)
      · have hr := hid (rise_false hkx hb)
        rw [← tb_less] at hb
        rw [show o + (k - 1 + 1) = o + k by omega] at f2
        generalize xs[k - 1]'(by omega) = x at f1 hb
        generalize xs[k - 1 + 1]'hkx = y at f2 hb
        have F1 := hid f1; have F2 := hid f2
        clear f1 f2
        go_wp2_with fail
        apply wp_drawn [isV _, isV _, isV _, isV _, isV _, isV _, isV _, isV _, isV _, isV (.bool true)] (by kernel_rfl)
        · kernel_rfl
        · refine ⟨?rs1s0, ?rs1s1, ?rs1s2, ?rs1s3, ?rs1s4, ?rs1s5, ?rs1s6, ?rs1s7, ?rs1s8, ?rs1s9, trivial⟩
          case rs1s0 =>
            intro v W hE hd; simp only [Region.wanted, ↓reduceIte]; (try simp [deps, waitsOn, Region.binds, knowing, isV, ownsV, anyV] at hd); simp only [putAll, List.take_succ_cons, List.take_zero, List.drop_succ_cons, List.drop_zero, Act.put, List.setIfInBounds_toArray, List.set_cons_zero, List.set_cons_succ, Nat.zero_add, Nat.reduceAdd]; go_simp; exact ⟨Below.refl _ _, rfl⟩
          case rs1s1 =>
            intro v W hE hd; simp only [Region.wanted, ↓reduceIte]; (try simp [deps, waitsOn, Region.binds, knowing, isV, ownsV, anyV] at hd); simp only [putAll, List.take_succ_cons, List.take_zero, List.drop_succ_cons, List.drop_zero, Act.put, List.setIfInBounds_toArray, List.set_cons_zero, List.set_cons_succ, Nat.zero_add, Nat.reduceAdd]; go_simp; exact ⟨Below.refl _ _, rfl⟩
          case rs1s2 =>
            intro v W hE hd; simp only [Region.wanted, ↓reduceIte]; (try simp [deps, waitsOn, Region.binds, knowing, isV, ownsV, anyV] at hd); simp only [putAll, List.take_succ_cons, List.take_zero, List.drop_succ_cons, List.drop_zero, Act.put, List.setIfInBounds_toArray, List.set_cons_zero, List.set_cons_succ, Nat.zero_add, Nat.reduceAdd]; go_simp; exact ⟨Below.refl _ _, rfl⟩
          case rs1s3 =>
            intro v W hE hd; simp only [Region.wanted, ↓reduceIte]; (try simp [deps, waitsOn, Region.binds, knowing, isV, ownsV, anyV] at hd); simp only [putAll, List.take_succ_cons, List.take_zero, List.drop_succ_cons, List.drop_zero, Act.put, List.setIfInBounds_toArray, List.set_cons_zero, List.set_cons_succ, Nat.zero_add, Nat.reduceAdd]
            have hw : IntKind.i64.wrap ((k : Int) - 1) = (k : Int) - 1 := by rw [IntKind.wrap_i64]; omega
            have g1 : (1 : Int) ≤ (k : Int) := by omega
            have g2 : (k : Int) - 1 < (n : Int) := by omega
            have g3 : ((k : Int) - 1).toNat = k - 1 := by omega
            go_simp
            exact ⟨Below.refl _ _, rfl⟩
          case rs1s4 =>
            intro v W hE hd; simp only [Region.wanted, ↓reduceIte]; (try simp [deps, waitsOn, Region.binds, knowing, isV, ownsV, anyV] at hd); simp only [putAll, List.take_succ_cons, List.take_zero, List.drop_succ_cons, List.drop_zero, Act.put, List.setIfInBounds_toArray, List.set_cons_zero, List.set_cons_succ, Nat.zero_add, Nat.reduceAdd]
            have e1 := cell_later hE F1.out
            go_simp
            exact ⟨Below.refl _ _, rfl⟩
          case rs1s5 =>
            intro v W hE hd; simp only [Region.wanted, ↓reduceIte]; (try simp [deps, waitsOn, Region.binds, knowing, isV, ownsV, anyV] at hd); simp only [putAll, List.take_succ_cons, List.take_zero, List.drop_succ_cons, List.drop_zero, Act.put, List.setIfInBounds_toArray, List.set_cons_zero, List.set_cons_succ, Nat.zero_add, Nat.reduceAdd]; go_simp; exact ⟨Below.refl _ _, rfl⟩
          case rs1s6 =>
            intro v W hE hd; simp only [Region.wanted, ↓reduceIte]; (try simp [deps, waitsOn, Region.binds, knowing, isV, ownsV, anyV] at hd); simp only [putAll, List.take_succ_cons, List.take_zero, List.drop_succ_cons, List.drop_zero, Act.put, List.setIfInBounds_toArray, List.set_cons_zero, List.set_cons_succ, Nat.zero_add, Nat.reduceAdd]; go_simp; exact ⟨Below.refl _ _, rfl⟩
          case rs1s7 =>
            intro v W hE hd; simp only [Region.wanted, ↓reduceIte]; (try simp [deps, waitsOn, Region.binds, knowing, isV, ownsV, anyV] at hd); simp only [putAll, List.take_succ_cons, List.take_zero, List.drop_succ_cons, List.drop_zero, Act.put, List.setIfInBounds_toArray, List.set_cons_zero, List.set_cons_succ, Nat.zero_add, Nat.reduceAdd]; go_simp; exact ⟨Below.refl _ _, rfl⟩
          case rs1s8 =>
            intro v W hE hd; simp only [Region.wanted, ↓reduceIte]; (try simp [deps, waitsOn, Region.binds, knowing, isV, ownsV, anyV] at hd); simp only [putAll, List.take_succ_cons, List.take_zero, List.drop_succ_cons, List.drop_zero, Act.put, List.setIfInBounds_toArray, List.set_cons_zero, List.set_cons_succ, Nat.zero_add, Nat.reduceAdd]
            have e1 := cell_later hE F2.out
            go_simp
            exact ⟨Below.refl _ _, rfl⟩
          case rs1s9 =>
            intro v W hE hd; simp only [Region.wanted, ↓reduceIte]; (try simp [deps, waitsOn, Region.binds, knowing, isV, ownsV, anyV] at hd); simp only [putAll, List.take_succ_cons, List.take_zero, List.drop_succ_cons, List.drop_zero, Act.put, List.setIfInBounds_toArray, List.set_cons_zero, List.set_cons_succ, Nat.zero_add, Nat.reduceAdd]
            go_simp
            exact ⟨_, rfl, Below.refl _ _, by show Value.bool _ = _; rw [str_toList, str_toList, hb]; rfl⟩
        · rintro v W6 hE ⟨-, -, -, -, -, -, -, -, -, e9, -⟩
          have e9 := (show v 9 = _ from e9)
          simp only [putAll, List.take_succ_cons, List.take_zero, List.drop_succ_cons, List.drop_zero, Act.put, List.setIfInBounds_toArray, List.set_cons_zero, List.set_cons_succ, Nat.zero_add, Nat.reduceAdd]
          rw [e9]
          clear e9
          go_wp2
          go_ret
          exact ⟨by rw [hr.out]; rfl, Ext.trans' HE.out hE⟩
      · have hn2 := hid (show ∀ i (h : i + 1 < xs.length), i + 1 < k + 1 → bytesBefore (xs[i]'(by omega)) (xs[i + 1]'h) = true from fun i h hi => by
          by_cases e : i = k - 1
          · subst e; exact hb
          · exact HN.out i h (by omega))
        rw [← tb_less] at hb
        rw [show o + (k - 1 + 1) = o + k by omega] at f2
        generalize xs[k - 1]'(by omega) = x at f1 hb
        generalize xs[k - 1 + 1]'hkx = y at f2 hb
        have F1 := hid f1; have F2 := hid f2
        clear f1 f2
        go_wp2_with fail
        apply wp_drawn [isV _, isV _, isV _, isV _, isV _, isV _, isV _, isV _, isV _, isV (.bool false)] (by kernel_rfl)
        · kernel_rfl
        · refine ⟨?rs2s0, ?rs2s1, ?rs2s2, ?rs2s3, ?rs2s4, ?rs2s5, ?rs2s6, ?rs2s7, ?rs2s8, ?rs2s9, trivial⟩
          case rs2s0 =>
            intro v W hE hd; simp only [Region.wanted, ↓reduceIte]; (try simp [deps, waitsOn, Region.binds, knowing, isV, ownsV, anyV] at hd); simp only [putAll, List.take_succ_cons, List.take_zero, List.drop_succ_cons, List.drop_zero, Act.put, List.setIfInBounds_toArray, List.set_cons_zero, List.set_cons_succ, Nat.zero_add, Nat.reduceAdd]; go_simp; exact ⟨Below.refl _ _, rfl⟩
          case rs2s1 =>
            intro v W hE hd; simp only [Region.wanted, ↓reduceIte]; (try simp [deps, waitsOn, Region.binds, knowing, isV, ownsV, anyV] at hd); simp only [putAll, List.take_succ_cons, List.take_zero, List.drop_succ_cons, List.drop_zero, Act.put, List.setIfInBounds_toArray, List.set_cons_zero, List.set_cons_succ, Nat.zero_add, Nat.reduceAdd]; go_simp; exact ⟨Below.refl _ _, rfl⟩
          case rs2s2 =>
            intro v W hE hd; simp only [Region.wanted, ↓reduceIte]; (try simp [deps, waitsOn, Region.binds, knowing, isV, ownsV, anyV] at hd); simp only [putAll, List.take_succ_cons, List.take_zero, List.drop_succ_cons, List.drop_zero, Act.put, List.setIfInBounds_toArray, List.set_cons_zero, List.set_cons_succ, Nat.zero_add, Nat.reduceAdd]; go_simp; exact ⟨Below.refl _ _, rfl⟩
          case rs2s3 =>
            intro v W hE hd; simp only [Region.wanted, ↓reduceIte]; (try simp [deps, waitsOn, Region.binds, knowing, isV, ownsV, anyV] at hd); simp only [putAll, List.take_succ_cons, List.take_zero, List.drop_succ_cons, List.drop_zero, Act.put, List.setIfInBounds_toArray, List.set_cons_zero, List.set_cons_succ, Nat.zero_add, Nat.reduceAdd]
            have hw : IntKind.i64.wrap ((k : Int) - 1) = (k : Int) - 1 := by rw [IntKind.wrap_i64]; omega
            have g1 : (1 : Int) ≤ (k : Int) := by omega
            have g2 : (k : Int) - 1 < (n : Int) := by omega
            have g3 : ((k : Int) - 1).toNat = k - 1 := by omega
            go_simp
            exact ⟨Below.refl _ _, rfl⟩
          case rs2s4 =>
            intro v W hE hd; simp only [Region.wanted, ↓reduceIte]; (try simp [deps, waitsOn, Region.binds, knowing, isV, ownsV, anyV] at hd); simp only [putAll, List.take_succ_cons, List.take_zero, List.drop_succ_cons, List.drop_zero, Act.put, List.setIfInBounds_toArray, List.set_cons_zero, List.set_cons_succ, Nat.zero_add, Nat.reduceAdd]
            have e1 := cell_later hE F1.out
            go_simp
            exact ⟨Below.refl _ _, rfl⟩
          case rs2s5 =>
            intro v W hE hd; simp only [Region.wanted, ↓reduceIte]; (try simp [deps, waitsOn, Region.binds, knowing, isV, ownsV, anyV] at hd); simp only [putAll, List.take_succ_cons, List.take_zero, List.drop_succ_cons, List.drop_zero, Act.put, List.setIfInBounds_toArray, List.set_cons_zero, List.set_cons_succ, Nat.zero_add, Nat.reduceAdd]; go_simp; exact ⟨Below.refl _ _, rfl⟩
          case rs2s6 =>
            intro v W hE hd; simp only [Region.wanted, ↓reduceIte]; (try simp [deps, waitsOn, Region.binds, knowing, isV, ownsV, anyV] at hd); simp only [putAll, List.take_succ_cons, List.take_zero, List.drop_succ_cons, List.drop_zero, Act.put, List.setIfInBounds_toArray, List.set_cons_zero, List.set_cons_succ, Nat.zero_add, Nat.reduceAdd]; go_simp; exact ⟨Below.refl _ _, rfl⟩
          case rs2s7 =>
            intro v W hE hd; simp only [Region.wanted, ↓reduceIte]; (try simp [deps, waitsOn, Region.binds, knowing, isV, ownsV, anyV] at hd); simp only [putAll, List.take_succ_cons, List.take_zero, List.drop_succ_cons, List.drop_zero, Act.put, List.setIfInBounds_toArray, List.set_cons_zero, List.set_cons_succ, Nat.zero_add, Nat.reduceAdd]; go_simp; exact ⟨Below.refl _ _, rfl⟩
          case rs2s8 =>
            intro v W hE hd; simp only [Region.wanted, ↓reduceIte]; (try simp [deps, waitsOn, Region.binds, knowing, isV, ownsV, anyV] at hd); simp only [putAll, List.take_succ_cons, List.take_zero, List.drop_succ_cons, List.drop_zero, Act.put, List.setIfInBounds_toArray, List.set_cons_zero, List.set_cons_succ, Nat.zero_add, Nat.reduceAdd]
            have e1 := cell_later hE F2.out
            go_simp
            exact ⟨Below.refl _ _, rfl⟩
          case rs2s9 =>
            intro v W hE hd; simp only [Region.wanted, ↓reduceIte]; (try simp [deps, waitsOn, Region.binds, knowing, isV, ownsV, anyV] at hd); simp only [putAll, List.take_succ_cons, List.take_zero, List.drop_succ_cons, List.drop_zero, Act.put, List.setIfInBounds_toArray, List.set_cons_zero, List.set_cons_succ, Nat.zero_add, Nat.reduceAdd]
            go_simp
            exact ⟨_, rfl, Below.refl _ _, by show Value.bool _ = _; rw [str_toList, str_toList, hb]; rfl⟩
        · rintro v W6 hE ⟨-, -, -, -, -, -, -, -, -, e9, -⟩
          have e9 := (show v 9 = _ from e9)
          simp only [putAll, List.take_succ_cons, List.take_zero, List.drop_succ_cons, List.drop_zero, Act.put, List.setIfInBounds_toArray, List.set_cons_zero, List.set_cons_succ, Nat.zero_add, Nat.reduceAdd]
          rw [e9]
          clear e9
          go_wp2_with fail
          go_roundw
          case rel => exact ⟨k + 1, by omega, .inl (by omega), by go_num, Ext.trans' HE.out hE, hn2⟩
          case measure => simp [intOf]; omega
    · have hlt' : ¬ ((k : Int) < (n : Int)) := by omega
      have hr := hid (rise_true fun i h => HN.out i h (by have := hn.out; omega))
      go_wp2
      go_ret
      exact ⟨by rw [hr.out]; rfl, HE.out⟩
set_option maxRecDepth 100000 in
set_option maxHeartbeats 4000000 in
theorem refTags_at {w : World} {A : Option Addr} {n c : Nat} {xs : List Str} (h : SlR Rep.txt w (· < w.heap.size) A n c xs) :
    Calls Tryz.prog 39 #[.slice A n c] w fun e w' => e = .returned (.bool (xs.all tagN)) ∧ Ext w w' := by
  have hn := hid h.1
  have hnc := h.2.1
  have hcm := h.2.2.1
  have H := hid h
  clear h
  go_enter Tryz.func39, Tryz.ntmps39
  go_wp2_with fail
  go_loopw [3] (fun i wr => ∃ k : Nat, k ≤ n ∧ i = .int .i64 (k : Int) ∧ Hid (Ext w wr) ∧ Hid (∀ j (hj : j < k) (h : j < xs.length), tagN xs[j] = true)) (fun i _ => n - (intOf i).toNat)
  case atStart => exact ⟨0, by omega, rfl, Below.refl _ _, fun j hj => by omega⟩
  case round =>
    obtain ⟨k, hk, rfl, HE, HN⟩ := hrel
    by_cases hlt : k < n
    · have hkx : k < xs.length := by have := hn.out; omega
      have hlt' : (k : Int) < (n : Int) := by omega
      have hk00 : ¬ ((k : Int) < 0) := by omega
      have hk0 : (0 : Int) ≤ (k : Int) := by omega
      obtain ⟨b, o, rfl, -, f1, hs⟩ := txt_at (H.out.grow HE.out) k hkx
      have Hx := hid (show xs[k] ∈ xs from List.getElem_mem hkx)
      have Hk := hid (show ∀ (hp : tagN xs[k] = true) j (hj : j < k + 1) (h : j < xs.length), tagN xs[j] = true from fun hp j hj h => by
        rcases Nat.lt_succ_iff_lt_or_eq.1 hj with h' | rfl
        · exact HN.out j h' h
        · exact hp)
      generalize xs[k] = x at f1 Hx Hk hs
      go_wp2_with fail
      refine (refParts_at x wr hs).mono ?_
      rintro e w2 ⟨rfl, hE2⟩
      have HE2 := hid (Ext.trans' HE.out hE2)
      have Ht := hid (show tagN x = (partsT x).2.2 from rfl)
      clear hE2 f1
      cases hp : (partsT x).2.2
      · have hr := hid (show xs.all tagN = false by rw [List.all_eq_false]; exact ⟨x, Hx.out, by rw [Ht.out, hp]; decide⟩)
        go_wp2
        go_ret
        exact ⟨by rw [hr.out]; rfl, HE2.out⟩
      · have hn2 := hid (Hk.out (Ht.out.trans hp))
        go_wp2_with fail
        go_roundw
        case rel => exact ⟨k + 1, by omega, by go_num, HE2, hn2⟩
        case measure => simp [intOf]; omega
    · obtain rfl : k = n := by omega
      have hlt' : ¬ ((k : Int) < (k : Int)) := by omega
      have hr := hid (show xs.all tagN = true by
        rw [List.all_eq_true]
        intro x hx
        obtain ⟨j, hj, rfl⟩ := List.getElem_of_mem hx
        exact HN.out j (by have := hn.out; omega) hj)
      go_wp2
      go_ret
      exact ⟨by rw [hr.out]; rfl, HE.out⟩
set_option maxRecDepth 100000 in
theorem less_at (a b : Str) (w : World) : Calls Tryz.prog 126 #[.string (str a), .string (str b)] w fun e w' => e = .returned (.bool (bytesBefore a b)) ∧ w = w' := by
  have h1 := str_toList a
  have h2 := str_toList b
  have h3 := tb_less a b
  generalize bytesBefore a b = r at h3 ⊢
  go_enter Tryz.func126, Tryz.ntmps126
  go_wp2
  go_ret
  exact ⟨rfl, rfl⟩
set_option maxRecDepth 100000 in
set_option maxHeartbeats 4000000 in
theorem isSorted_at {w : World} {A : Option Addr} {n c : Nat} {xs : List Str} (h : SlR Rep.txt w (· < w.heap.size) A n c xs) :
    Calls Tryz.prog 117 #[.slice A n c] w fun e w' => Ext w w' ∧ ((e = .returned (.bool true) ∧ NoneBack xs) ∨ (e = .returned (.bool false) ∧ riseB xs = false)) := by
  have hn := hid h.1
  have hnc := h.2.1
  have hcm := h.2.2.1
  have H := hid h
  clear h
  go_enter Tryz.func117, Tryz.ntmps117
  by_cases h0 : n = 0
  · subst h0
    go_wp2_with fail
    go_loopw [3] (fun i wr => i = .int .i64 (-1) ∧ Hid (Ext w wr)) (fun _ _ => 0)
    case atStart => exact ⟨rfl, Below.refl _ _⟩
    case round =>
      obtain ⟨rfl, HE⟩ := hrel
      go_wp2
      go_ret
      exact ⟨HE.out, .inl ⟨rfl, fun i h => by have := hn.out; omega⟩⟩
  have hs1 : (n : Int) - 1 = ((n - 1 : Nat) : Int) := by omega
  have Hs1 := hid hs1
  have hw1 : IntKind.i64.wrap ((n : Int) - 1) = ((n - 1 : Nat) : Int) := by rw [IntKind.wrap_i64]; omega
  clear hs1
  go_wp2_with fail
  go_loopw [3] (fun i wr => ∃ k : Nat, k ≤ n - 1 ∧ i = .int .i64 (k : Int) ∧ Hid (Ext w wr) ∧ Hid (∀ i (h : i + 1 < xs.length), k ≤ i → bytesBefore (xs[i + 1]'h) (xs[i]'(by omega)) = false)) (fun i _ => (intOf i).toNat)
  case atStart => exact ⟨n - 1, by omega, by first | rfl | (rw [hw1]), Below.refl _ _, fun i _ hi => by have := hn.out; omega⟩
  case round =>
    clear hw1
    obtain ⟨k, hk, rfl, HE, HN⟩ := hrel
    by_cases hlt : 0 < k
    · have hkx : k - 1 + 1 < xs.length := by have := hn.out; omega
      have hlt' : (0 : Int) < (k : Int) := by omega
      have hlt2 : (k : Int) < (n : Int) := by omega
      have hk00 : ¬ ((k : Int) < 0) := by omega
      have hk0 : (0 : Int) ≤ (k : Int) := by omega
      obtain ⟨b, o, rfl, -, f1, -⟩ := txt_at (H.out.grow HE.out) (k - 1) (by omega)
      obtain ⟨b2, o2, e2, -, f2, -⟩ := txt_at (H.out.grow HE.out) (k - 1 + 1) hkx
      simp only [Option.some.injEq, Addr.mk.injEq, and_true] at e2
      obtain ⟨rfl, rfl⟩ := e2
      cases hb : bytesBefore (xs[k - 1 + 1]'hkx) (xs[k - 1]'(by omega))
      · have hn2 := hid (show ∀ i (h : i + 1 < xs.length), k - 1 ≤ i → bytesBefore (xs[i + 1]'h) (xs[i]'(by omega)) = false from fun i h hi => by
          by_cases e : i = k - 1
          · subst e; exact hb
          · exact HN.out i h (by omega))
        rw [show o + (k - 1 + 1) = o + k by omega] at f2
        generalize xs[k - 1]'(by omega) = x at f1 hb
        generalize xs[k - 1 + 1]'hkx = y at f2 hb
        have F1 := hid f1; have F2 := hid f2; have Hb := hid hb
        clear f1 f2 hb
        go_wp2_with fail
        apply wp_drawn [isV _, isV _, isV _, isV _, isV _, isV _, isV _, isV _, isV _, isV _] (by kernel_rfl)
        · kernel_rfl
        · refine ⟨?is1s0, ?is1s1, ?is1s2, ?is1s3, ?is1s4, ?is1s5, ?is1s6, ?is1s7, ?is1s8, ?is1s9, trivial⟩
          case is1s0 =>
            intro v W hE hd; simp only [Region.wanted, ↓reduceIte]; (try simp [deps, waitsOn, Region.binds, knowing, isV, ownsV, anyV] at hd); simp only [putAll, List.take_succ_cons, List.take_zero, List.drop_succ_cons, List.drop_zero, Act.put, List.setIfInBounds_toArray, List.set_cons_zero, List.set_cons_succ, Nat.zero_add, Nat.reduceAdd]; go_simp; exact ⟨Below.refl _ _, rfl⟩
          case is1s1 =>
            intro v W hE hd; simp only [Region.wanted, ↓reduceIte]; (try simp [deps, waitsOn, Region.binds, knowing, isV, ownsV, anyV] at hd); simp only [putAll, List.take_succ_cons, List.take_zero, List.drop_succ_cons, List.drop_zero, Act.put, List.setIfInBounds_toArray, List.set_cons_zero, List.set_cons_succ, Nat.zero_add, Nat.reduceAdd]; go_simp; exact ⟨Below.refl _ _, rfl⟩
          case is1s2 =>
            intro v W hE hd; simp only [Region.wanted, ↓reduceIte]; (try simp [deps, waitsOn, Region.binds, knowing, isV, ownsV, anyV] at hd); simp only [putAll, List.take_succ_cons, List.take_zero, List.drop_succ_cons, List.drop_zero, Act.put, List.setIfInBounds_toArray, List.set_cons_zero, List.set_cons_succ, Nat.zero_add, Nat.reduceAdd]; go_simp; exact ⟨Below.refl _ _, rfl⟩
          case is1s3 =>
            intro v W hE hd; simp only [Region.wanted, ↓reduceIte]; (try simp [deps, waitsOn, Region.binds, knowing, isV, ownsV, anyV] at hd); simp only [putAll, List.take_succ_cons, List.take_zero, List.drop_succ_cons, List.drop_zero, Act.put, List.setIfInBounds_toArray, List.set_cons_zero, List.set_cons_succ, Nat.zero_add, Nat.reduceAdd]
            have e1 := cell_later hE F2.out
            go_simp
            exact ⟨Below.refl _ _, rfl⟩
          case is1s4 =>
            intro v W hE hd; simp only [Region.wanted, ↓reduceIte]; (try simp [deps, waitsOn, Region.binds, knowing, isV, ownsV, anyV] at hd); simp only [putAll, List.take_succ_cons, List.take_zero, List.drop_succ_cons, List.drop_zero, Act.put, List.setIfInBounds_toArray, List.set_cons_zero, List.set_cons_succ, Nat.zero_add, Nat.reduceAdd]; go_simp; exact ⟨Below.refl _ _, rfl⟩
          case is1s5 =>
            intro v W hE hd; simp only [Region.wanted, ↓reduceIte]; (try simp [deps, waitsOn, Region.binds, knowing, isV, ownsV, anyV] at hd); simp only [putAll, List.take_succ_cons, List.take_zero, List.drop_succ_cons, List.drop_zero, Act.put, List.setIfInBounds_toArray, List.set_cons_zero, List.set_cons_succ, Nat.zero_add, Nat.reduceAdd]; go_simp; exact ⟨Below.refl _ _, rfl⟩
          case is1s6 =>
            intro v W hE hd; simp only [Region.wanted, ↓reduceIte]; (try simp [deps, waitsOn, Region.binds, knowing, isV, ownsV, anyV] at hd); simp only [putAll, List.take_succ_cons, List.take_zero, List.drop_succ_cons, List.drop_zero, Act.put, List.setIfInBounds_toArray, List.set_cons_zero, List.set_cons_succ, Nat.zero_add, Nat.reduceAdd]; go_simp; exact ⟨Below.refl _ _, rfl⟩
          case is1s7 =>
            intro v W hE hd; simp only [Region.wanted, ↓reduceIte]; (try simp [deps, waitsOn, Region.binds, knowing, isV, ownsV, anyV] at hd); simp only [putAll, List.take_succ_cons, List.take_zero, List.drop_succ_cons, List.drop_zero, Act.put, List.setIfInBounds_toArray, List.set_cons_zero, List.set_cons_succ, Nat.zero_add, Nat.reduceAdd]
            have hw : IntKind.i64.wrap ((k : Int) - 1) = (k : Int) - 1 := by rw [IntKind.wrap_i64]; omega
            have g1 : (1 : Int) ≤ (k : Int) := by omega
            have g2 : (k : Int) - 1 < (n : Int) := by omega
            have g3 : ((k : Int) - 1).toNat = k - 1 := by omega
            go_simp
            exact ⟨Below.refl _ _, rfl⟩
          case is1s8 =>
            intro v W hE hd; simp only [Region.wanted, ↓reduceIte]; (try simp [deps, waitsOn, Region.binds, knowing, isV, ownsV, anyV] at hd); simp only [putAll, List.take_succ_cons, List.take_zero, List.drop_succ_cons, List.drop_zero, Act.put, List.setIfInBounds_toArray, List.set_cons_zero, List.set_cons_succ, Nat.zero_add, Nat.reduceAdd]
            have e1 := cell_later hE F1.out
            go_simp
            exact ⟨Below.refl _ _, rfl⟩
          case is1s9 =>
            intro v W hE hd; simp only [Region.wanted, ↓reduceIte]; (try simp [deps, waitsOn, Region.binds, knowing, isV, ownsV, anyV] at hd); simp only [putAll, List.take_succ_cons, List.take_zero, List.drop_succ_cons, List.drop_zero, Act.put, List.setIfInBounds_toArray, List.set_cons_zero, List.set_cons_succ, Nat.zero_add, Nat.reduceAdd]
            go_simp
            refine (less_at y x _).mono ?_
            rintro e w' ⟨rfl, rfl⟩
            go_simp
            exact ⟨Below.refl _ _, rfl⟩
        · rintro v W6 hE ⟨-, -, -, -, -, -, -, -, -, e9, -⟩
          have e9 := (show v 9 = _ from e9)
          simp only [putAll, List.take_succ_cons, List.take_zero, List.drop_succ_cons, List.drop_zero, Act.put, List.setIfInBounds_toArray, List.set_cons_zero, List.set_cons_succ, Nat.zero_add, Nat.reduceAdd]
          rw [e9, Hb.out]
          clear e9
          have hw : IntKind.i64.wrap ((k : Int) - 1) = ((k - 1 : Nat) : Int) := by rw [IntKind.wrap_i64]; omega
          go_wp2_with fail
          go_roundw
          case rel => exact ⟨k - 1, by omega, by first | rfl | (rw [hw]) | go_num, Ext.trans' HE.out hE, hn2⟩
          case measure => first | (rw [hw]; simp [intOf]; omega) | (simp [intOf]; omega)
      · have hr := hid (rise_back hkx hb)
        rw [show o + (k - 1 + 1) = o + k by omega] at f2
        generalize xs[k - 1]'(by omega) = x at f1 hb
        generalize xs[k - 1 + 1]'hkx = y at f2 hb
        have F1 := hid f1; have F2 := hid f2; have Hb := hid hb
        clear f1 f2 hb
        go_wp2_with fail
        apply wp_drawn [isV _, isV _, isV _, isV _, isV _, isV _, isV _, isV _, isV _, isV _] (by kernel_rfl)
        · kernel_rfl
        · refine ⟨?is2s0, ?is2s1, ?is2s2, ?is2s3, ?is2s4, ?is2s5, ?is2s6, ?is2s7, ?is2s8, ?is2s9, trivial⟩
          case is2s0 =>
            intro v W hE hd; simp only [Region.wanted, ↓reduceIte]; (try simp [deps, waitsOn, Region.binds, knowing, isV, ownsV, anyV] at hd); simp only [putAll, List.take_succ_cons, List.take_zero, List.drop_succ_cons, List.drop_zero, Act.put, List.setIfInBounds_toArray, List.set_cons_zero, List.set_cons_succ, Nat.zero_add, Nat.reduceAdd]; go_simp; exact ⟨Below.refl _ _, rfl⟩
          case is2s1 =>
            intro v W hE hd; simp only [Region.wanted, ↓reduceIte]; (try simp [deps, waitsOn, Region.binds, knowing, isV, ownsV, anyV] at hd); simp only [putAll, List.take_succ_cons, List.take_zero, List.drop_succ_cons, List.drop_zero, Act.put, List.setIfInBounds_toArray, List.set_cons_zero, List.set_cons_succ, Nat.zero_add, Nat.reduceAdd]; go_simp; exact ⟨Below.refl _ _, rfl⟩
          case is2s2 =>
            intro v W hE hd; simp only [Region.wanted, ↓reduceIte]; (try simp [deps, waitsOn, Region.binds, knowing, isV, ownsV, anyV] at hd); simp only [putAll, List.take_succ_cons, List.take_zero, List.drop_succ_cons, List.drop_zero, Act.put, List.setIfInBounds_toArray, List.set_cons_zero, List.set_cons_succ, Nat.zero_add, Nat.reduceAdd]; go_simp; exact ⟨Below.refl _ _, rfl⟩
          case is2s3 =>
            intro v W hE hd; simp only [Region.wanted, ↓reduceIte]; (try simp [deps, waitsOn, Region.binds, knowing, isV, ownsV, anyV] at hd); simp only [putAll, List.take_succ_cons, List.take_zero, List.drop_succ_cons, List.drop_zero, Act.put, List.setIfInBounds_toArray, List.set_cons_zero, List.set_cons_succ, Nat.zero_add, Nat.reduceAdd]
            have e1 := cell_later hE F2.out
            go_simp
            exact ⟨Below.refl _ _, rfl⟩
          case is2s4 =>
            intro v W hE hd; simp only [Region.wanted, ↓reduceIte]; (try simp [deps, waitsOn, Region.binds, knowing, isV, ownsV, anyV] at hd); simp only [putAll, List.take_succ_cons, List.take_zero, List.drop_succ_cons, List.drop_zero, Act.put, List.setIfInBounds_toArray, List.set_cons_zero, List.set_cons_succ, Nat.zero_add, Nat.reduceAdd]; go_simp; exact ⟨Below.refl _ _, rfl⟩
          case is2s5 =>
            intro v W hE hd; simp only [Region.wanted, ↓reduceIte]; (try simp [deps, waitsOn, Region.binds, knowing, isV, ownsV, anyV] at hd); simp only [putAll, List.take_succ_cons, List.take_zero, List.drop_succ_cons, List.drop_zero, Act.put, List.setIfInBounds_toArray, List.set_cons_zero, List.set_cons_succ, Nat.zero_add, Nat.reduceAdd]; go_simp; exact ⟨Below.refl _ _, rfl⟩
          case is2s6 =>
            intro v W hE hd; simp only [Region.wanted, ↓reduceIte]; (try simp [deps, waitsOn, Region.binds, knowing, isV, ownsV, anyV] at hd); simp only [putAll, List.take_succ_cons, List.take_zero, List.drop_succ_cons, List.drop_zero, Act.put, List.setIfInBounds_toArray, List.set_cons_zero, List.set_cons_succ, Nat.zero_add, Nat.reduceAdd]; go_simp; exact ⟨Below.refl _ _, rfl⟩
          case is2s7 =>
            intro v W hE hd; simp only [Region.wanted, ↓reduceIte]; (try simp [deps, waitsOn, Region.binds, knowing, isV, ownsV, anyV] at hd); simp only [putAll, List.take_succ_cons, List.take_zero, List.drop_succ_cons, List.drop_zero, Act.put, List.setIfInBounds_toArray, List.set_cons_zero, List.set_cons_succ, Nat.zero_add, Nat.reduceAdd]
            have hw : IntKind.i64.wrap ((k : Int) - 1) = (k : Int) - 1 := by rw [IntKind.wrap_i64]; omega
            have g1 : (1 : Int) ≤ (k : Int) := by omega
            have g2 : (k : Int) - 1 < (n : Int) := by omega
            have g3 : ((k : Int) - 1).toNat = k - 1 := by omega
            go_simp
            exact ⟨Below.refl _ _, rfl⟩
          case is2s8 =>
            intro v W hE hd; simp only [Region.wanted, ↓reduceIte]; (try simp [deps, waitsOn, Region.binds, knowing, isV, ownsV, anyV] at hd); simp only [putAll, List.take_succ_cons, List.take_zero, List.drop_succ_cons, List.drop_zero, Act.put, List.setIfInBounds_toArray, List.set_cons_zero, List.set_cons_succ, Nat.zero_add, Nat.reduceAdd]
            have e1 := cell_later hE F1.out
            go_simp
            exact ⟨Below.refl _ _, rfl⟩
          case is2s9 =>
            intro v W hE hd; simp only [Region.wanted, ↓reduceIte]; (try simp [deps, waitsOn, Region.binds, knowing, isV, ownsV, anyV] at hd); simp only [putAll, List.take_succ_cons, List.take_zero, List.drop_succ_cons, List.drop_zero, Act.put, List.setIfInBounds_toArray, List.set_cons_zero, List.set_cons_succ, Nat.zero_add, Nat.reduceAdd]
            go_simp
            refine (less_at y x _).mono ?_
            rintro e w' ⟨rfl, rfl⟩
            go_simp
            exact ⟨Below.refl _ _, rfl⟩
        · rintro v W6 hE ⟨-, -, -, -, -, -, -, -, -, e9, -⟩
          have e9 := (show v 9 = _ from e9)
          simp only [putAll, List.take_succ_cons, List.take_zero, List.drop_succ_cons, List.drop_zero, Act.put, List.setIfInBounds_toArray, List.set_cons_zero, List.set_cons_succ, Nat.zero_add, Nat.reduceAdd]
          rw [e9, Hb.out]
          clear e9
          go_wp2
          go_ret
          exact ⟨Ext.trans' HE.out hE, .inr ⟨rfl, hr.out⟩⟩
    · obtain rfl : k = 0 := by omega
      have hlt' : ¬ ((0 : Int) < ((0 : Nat) : Int)) := by omega
      go_wp2
      go_ret
      exact ⟨HE.out, .inl ⟨rfl, fun i h => HN.out i h (by omega)⟩⟩
end Go.Proofs.YtakebdeldndaaaaGreat
