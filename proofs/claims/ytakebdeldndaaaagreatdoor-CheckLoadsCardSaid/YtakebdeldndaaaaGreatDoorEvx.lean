/- Several texts of this claim's, one behind the other. -/
import Derived.Sort.KeysCollected
import Derived.Lib.SlicesCompact
import GoSem.Op.String
import Derived.Test.YtakebdeldndaaaaGreatDoorEvs
import Derived.Test.YtakebdeldndaaaaGreatDoorFound
/- Strings in the order of their bytes: what the library's sort tells of names that rise. Plain. -/
namespace Go.Proofs.YtakebdeldndaaaaGreatDoor
open Go
theorem lt_of_bb : ∀ (a b : List UInt8), bytesBefore a b = true → a < b
 | [], [], h => by cases h
 | [], _ :: _, _ => List.nil_lt_cons _ _
 | _ :: _, [], h => by cases h
 | x :: a, y :: b, h => by
  unfold bytesBefore at h
  simp only [Bool.or_eq_true, decide_eq_true_eq, Bool.and_eq_true, beq_iff_eq] at h
  rw [List.cons_lt_cons_iff]
  rcases h with h | ⟨rfl, h⟩
  ·exact .inl h
  ·exact .inr ⟨rfl, lt_of_bb a b h⟩
theorem le_of_bb {a b : List UInt8} (h : bytesBefore a b = true) : a ≤ b := List.not_lt.1 (List.lt_asymm (lt_of_bb a b h))
theorem sort_names {ss names : List (List UInt8)} (hp : ss.Perm names) (hs : names.Pairwise fun a b => bytesBefore a b = true) : ss.mergeSort (fun x y => decide (x ≤ y)) = names := by
 have h1 : ss.mergeSort leB = names.mergeSort leB := mergeSort_of_perm hp
 refine h1.trans (List.mergeSort_of_pairwise ?_)
 exact hs.imp fun h => decide_eq_true (le_of_bb h)
end Go.Proofs.YtakebdeldndaaaaGreatDoor
/- Texts that rise. Plain. -/
namespace Go.Proofs.YtakebdeldndaaaaGreatDoor
open Go
theorem tb_irrefl (a : List UInt8) : bytesBefore a a = false := WideShapes.before_irrefl (.string a)
theorem tb_trans {a b c : List UInt8} (h1 : bytesBefore a b = true) (h2 : bytesBefore b c = true) : bytesBefore a c = true := WideShapes.before_trans (a := .string a) (b := .string b) (c := .string c) h1 h2
theorem tb_asymm {a b : List UInt8} (h : bytesBefore a b = true) : bytesBefore b a = false := by
 cases hb : bytesBefore b a
 ·rfl
 ·have := tb_trans h hb; rw [tb_irrefl] at this; cases this
theorem tb_less : ∀ (a b : List UInt8), Op.bytesLess a b = bytesBefore a b
 | _, [] => by cases ‹List UInt8› <;> rfl
 | [], _ :: _ => rfl
 | x :: a, y :: b => by unfold Op.bytesLess bytesBefore; rw [tb_less a b]
theorem tb_total : ∀ (a b : List UInt8), a ≠ b → bytesBefore a b = true ∨ bytesBefore b a = true
 | [], [], h => absurd rfl h
 | [], _ :: _, _ => .inl rfl
 | _ :: _, [], _ => .inr rfl
 | x :: a, y :: b, h => by
  unfold bytesBefore
  simp only [Bool.or_eq_true, decide_eq_true_eq, Bool.and_eq_true, beq_iff_eq]
  by_cases e : x = y
  ·subst e
   rcases tb_total a b (fun e => h (by rw [e])) with h' | h'
   ·exact .inl (.inr ⟨rfl, h'⟩)
   ·exact .inr (.inr ⟨rfl, h'⟩)
  ·have : x.toNat ≠ y.toNat := fun e' => e (UInt8.toNat_inj.1 e')
   rcases Nat.lt_or_gt_of_ne this with h' | h'
   ·exact .inl (.inl (UInt8.lt_iff_toNat_lt.2 h'))
   ·exact .inr (.inl (UInt8.lt_iff_toNat_lt.2 h'))
theorem tb_ne {a b : List UInt8} (h : bytesBefore a b = true) : a ≠ b := by rintro rfl; rw [tb_irrefl] at h; cases h
def riseB : List (List UInt8) → Bool
 | a :: b :: l => bytesBefore a b && riseB (b :: l)
 | _ => true
theorem rise_iff : ∀ l : List (List UInt8), riseB l = true ↔ ∀ i (h : i + 1 < l.length), bytesBefore (l[i]'(by omega)) (l[i + 1]'h) = true
 | [] => by simp [riseB]
 | [a] => by simp [riseB]
 | a :: b :: l => by
  unfold riseB
  rw [Bool.and_eq_true, rise_iff (b :: l)]
  constructor
  ·rintro ⟨h1, h2⟩ i hi
   match i with
   | 0 => exact h1
   | i + 1 => exact h2 i (by simpa using hi)
  ·intro h
   exact ⟨h 0 (by simp), fun i hi => h (i + 1) (by simp at hi ⊢; omega)⟩
theorem rise_pairwise : ∀ {l : List (List UInt8)}, riseB l = true → l.Pairwise fun a b => bytesBefore a b = true
 | [], _ => .nil
 | [a], _ => List.pairwise_singleton _ _
 | a :: b :: l, h => by
  unfold riseB at h
  rw [Bool.and_eq_true] at h
  have ih := rise_pairwise h.2
  refine List.pairwise_cons.2 ⟨fun c hc => ?_, ih⟩
  rcases List.mem_cons.1 hc with rfl | hc
  ·exact h.1
  ·exact tb_trans h.1 ((List.pairwise_cons.1 ih).1 c hc)
theorem rise_false {l : List (List UInt8)} {i : Nat} (h : i + 1 < l.length) (hb : bytesBefore (l[i]'(by omega)) (l[i + 1]'h) = false) : riseB l = false := by
 cases hr : riseB l
 ·rfl
 ·rw [(rise_iff l).1 hr i h] at hb; cases hb
theorem rise_true {l : List (List UInt8)} (hall : ∀ i (h : i + 1 < l.length), bytesBefore (l[i]'(by omega)) (l[i + 1]'h) = true) : riseB l = true := (rise_iff l).2 hall
def NoneBack (l : List (List UInt8)) : Prop := ∀ i (h : i + 1 < l.length), bytesBefore (l[i + 1]'h) (l[i]'(by omega)) = false
theorem rise_compact {l : List (List UInt8)} (h : NoneBack l) : riseB l = decide ((Lib.compact l).length = l.length) := by
 have hle : (Lib.compact l).length = ((List.range l.length).filter (Lib.keeps l.toArray)).length := by
  unfold Lib.compact Lib.compactUpTo; rw [List.length_map]
 have hget : ∀ i (hi : i < l.length), (l.toArray)[i]! = l[i] := fun i hi => by simp [hi]
 rw [Bool.eq_iff_iff, decide_eq_true_eq, hle]
 constructor
 ·intro hr
  rw [List.filter_eq_self.2]
  ·simp
  ·intro j hj
   have hj' : j < l.length := List.mem_range.1 hj
   match j, hj' with
   | 0, _ => rfl
   | j + 1, hj' =>
    refine Lib.keeps_pos ?_
    rw [hget _ hj', Nat.add_sub_cancel, hget j (by omega)]
    exact fun e => tb_ne ((rise_iff l).1 hr j hj') e.symm
 ·intro hl
  refine rise_true fun i hi => ?_
  by_cases e : l[i] = l[i + 1]
  ·exfalso
   have hk : Lib.keeps l.toArray (i + 1) = false := Lib.keeps_neg (by omega) (by rw [hget _ hi, Nat.add_sub_cancel, hget i (by omega)]; exact e.symm)
   have h1 : ∀ x ∈ List.range l.length, Lib.keeps l.toArray x = true := by
    have := List.length_filter_eq_length_iff.1 (show ((List.range l.length).filter (Lib.keeps l.toArray)).length = (List.range l.length).length by rw [hl]; simp)
    exact this
   rw [h1 (i + 1) (List.mem_range.2 hi)] at hk; cases hk
  ·rcases tb_total _ _ e with h' | h'
   ·exact h'
   ·rw [h i hi] at h'; cases h'
theorem rise_back {l : List (List UInt8)} {i : Nat} (h : i + 1 < l.length) (hb : bytesBefore (l[i + 1]'h) (l[i]'(by omega)) = true) : riseB l = false := rise_false h (tb_asymm hb)
end Go.Proofs.YtakebdeldndaaaaGreatDoor
/- Texts that rise, by the program and by the document; tags. -/
namespace Go.Proofs.YtakebdeldndaaaaGreatDoor
open Go Go.RowKit
set_option linter.unusedSimpArgs false
set_option linter.unusedVariables false
set_option maxRecDepth 100000 in
set_option maxHeartbeats 4000000 in
theorem refRise_at {w : World} {A : Option Addr} {n c : Nat} {xs : List Str} (h : SlR Rep.txt w (· < w.heap.size) A n c xs) :
  Calls Tryz.prog 103 #[.slice A n c] w fun e w' => e = .returned (.bool (riseB xs)) ∧ Ext w w' := by
 have hn := hid h.1
 have hnc := h.2.1
 have hcm := h.2.2.1
 have hst := str_toList
 have H := hid h
 clear h
 go_enter Tryz.func103, Tryz.ntmps103
 go_wp2_with fail
 go_loopw [3] (fun i wr => ∃ k : Nat, 1 ≤ k ∧ (k ≤ n ∨ k = 1) ∧ i = .int .i64 (k : Int) ∧ Hid (Ext w wr) ∧ Hid (∀ i (h : i + 1 < xs.length), i + 1 < k → bytesBefore (xs[i]'(by omega)) (xs[i + 1]'h) = true)) (fun i _ => n + 1 - (intOf i).toNat)
 case atStart => exact ⟨1, by omega, .inr rfl, rfl, Below.refl _ _, fun i _ hi => by omega⟩
 case round =>
  obtain ⟨k, hk1, hk, rfl, HE, HN⟩ := hrel
  by_cases hlt : k < n
  ·have hkx : k - 1 + 1 < xs.length := by have := hn.out; omega
   have hlt' : (k : Int) < (n : Int) := by omega
   have hk00 : ¬ ((k : Int) < 0) := by omega
   have hk0 : (0 : Int) ≤ (k : Int) := by omega
   obtain ⟨b, o, rfl, -, f1, -⟩ := txt_at (H.out.grow HE.out) (k - 1) (by omega)
   obtain ⟨b2, o2, e2, -, f2, -⟩ := txt_at (H.out.grow HE.out) (k - 1 + 1) hkx
   simp only [Option.some.injEq, Addr.mk.injEq, and_true] at e2
   obtain ⟨rfl, rfl⟩ := e2
   cases hb : bytesBefore (xs[k - 1]'(by omega)) (xs[k - 1 + 1]'hkx)
   ·have hr := hid (rise_false hkx hb)
    rw [← tb_less] at hb
    rw [show o + (k - 1 + 1) = o + k by omega] at f2
    generalize xs[k - 1]'(by omega) = x at f1 hb
    generalize xs[k - 1 + 1]'hkx = y at f2 hb
    have F1 := hid f1; have F2 := hid f2
    clear f1 f2
    go_wp2_with fail
    apply wp_drawn [isV _, isV _, isV _, isV _, isV _, isV _, isV _, isV _, isV _, isV (.bool true)] (by kernel_rfl)
    ·kernel_rfl
    ·refine ⟨?rs1s0, ?rs1s1, ?rs1s2, ?rs1s3, ?rs1s4, ?rs1s5, ?rs1s6, ?rs1s7, ?rs1s8, ?rs1s9, trivial⟩
     case rs1s0 | rs1s1 | rs1s2 =>
      intro v W hE hd; simp only [Region.wanted, ↓reduceIte]; (try simp [deps, waitsOn, Region.binds, knowing, isV, ownsV, anyV] at hd); simp only [putAll, List.take_succ_cons, List.take_zero, List.drop_succ_cons, List.drop_zero, Act.put, List.setIfInBounds_toArray, List.set_cons_zero, List.set_cons_succ, Nat.zero_add, Nat.reduceAdd]; go_simp; exact ⟨Below.refl _ _, rfl⟩
     case rs1s3 =>
      intro v W hE hd; simp only [Region.wanted, ↓reduceIte]; (try simp [deps, waitsOn, Region.binds, knowing, isV, ownsV, anyV] at hd); simp only [putAll, List.take_succ_cons, List.take_zero, List.drop_succ_cons, List.drop_zero, Act.put, List.setIfInBounds_toArray, List.set_cons_zero, List.set_cons_succ, Nat.zero_add, Nat.reduceAdd]
      have hw : IntKind.i64.wrap ((k : Int) - 1) = (k : Int) - 1 := by rw [IntKind.wrap_i64]; omega
      have g1 : (1 : Int) ≤ (k : Int) := by omega
      have g2 : (k : Int) - 1 < (n : Int) := by omega
      have g3 : ((k : Int) - 1).toNat = k - 1 := by omega
      go_simp
      exact ⟨Below.refl _ _, rfl⟩
     case rs1s4 =>
      intro v W hE hd; simp only [Region.wanted, ↓reduceIte]; (try simp [deps, waitsOn, Region.binds, knowing, isV, ownsV, anyV] at hd); simp only [putAll, List.take_succ_cons, List.take_zero, List.drop_succ_cons, List.drop_zero, Act.put, List.setIfInBounds_toArray, List.set_cons_zero, List.set_cons_succ, Nat.zero_add, Nat.reduceAdd]
      have e1 := cell_later hE F1.out
      go_simp
      exact ⟨Below.refl _ _, rfl⟩
     case rs1s5 | rs1s6 | rs1s7 =>
      intro v W hE hd; simp only [Region.wanted, ↓reduceIte]; (try simp [deps, waitsOn, Region.binds, knowing, isV, ownsV, anyV] at hd); simp only [putAll, List.take_succ_cons, List.take_zero, List.drop_succ_cons, List.drop_zero, Act.put, List.setIfInBounds_toArray, List.set_cons_zero, List.set_cons_succ, Nat.zero_add, Nat.reduceAdd]; go_simp; exact ⟨Below.refl _ _, rfl⟩
     case rs1s8 =>
      intro v W hE hd; simp only [Region.wanted, ↓reduceIte]; (try simp [deps, waitsOn, Region.binds, knowing, isV, ownsV, anyV] at hd); simp only [putAll, List.take_succ_cons, List.take_zero, List.drop_succ_cons, List.drop_zero, Act.put, List.setIfInBounds_toArray, List.set_cons_zero, List.set_cons_succ, Nat.zero_add, Nat.reduceAdd]
      have e1 := cell_later hE F2.out
      go_simp
      exact ⟨Below.refl _ _, rfl⟩
     case rs1s9 =>
      intro v W hE hd; simp only [Region.wanted, ↓reduceIte]; (try simp [deps, waitsOn, Region.binds, knowing, isV, ownsV, anyV] at hd); simp only [putAll, List.take_succ_cons, List.take_zero, List.drop_succ_cons, List.drop_zero, Act.put, List.setIfInBounds_toArray, List.set_cons_zero, List.set_cons_succ, Nat.zero_add, Nat.reduceAdd]
      go_simp
      exact ⟨_, rfl, Below.refl _ _, by show Value.bool _ = _; rw [str_toList, str_toList, hb]; rfl⟩
    ·rintro v W6 hE ⟨-, -, -, -, -, -, -, -, -, e9, -⟩
     have e9 := (show v 9 = _ from e9)
     simp only [putAll, List.take_succ_cons, List.take_zero, List.drop_succ_cons, List.drop_zero, Act.put, List.setIfInBounds_toArray, List.set_cons_zero, List.set_cons_succ, Nat.zero_add, Nat.reduceAdd]
     rw [e9]
     clear e9
     go_wp2
     go_ret
     exact ⟨by rw [hr.out]; rfl, Ext.trans' HE.out hE⟩
   ·have hn2 := hid (show ∀ i (h : i + 1 < xs.length), i + 1 < k + 1 → bytesBefore (xs[i]'(by omega)) (xs[i + 1]'h) = true from fun i h hi => by
     by_cases e : i = k - 1
     ·subst e; exact hb
     ·exact HN.out i h (by omega))
    rw [← tb_less] at hb
    rw [show o + (k - 1 + 1) = o + k by omega] at f2
    generalize xs[k - 1]'(by omega) = x at f1 hb
    generalize xs[k - 1 + 1]'hkx = y at f2 hb
    have F1 := hid f1; have F2 := hid f2
    clear f1 f2
    go_wp2_with fail
    apply wp_drawn [isV _, isV _, isV _, isV _, isV _, isV _, isV _, isV _, isV _, isV (.bool false)] (by kernel_rfl)
    ·kernel_rfl
    ·refine ⟨?rs2s0, ?rs2s1, ?rs2s2, ?rs2s3, ?rs2s4, ?rs2s5, ?rs2s6, ?rs2s7, ?rs2s8, ?rs2s9, trivial⟩
     case rs2s0 | rs2s1 | rs2s2 =>
      intro v W hE hd; simp only [Region.wanted, ↓reduceIte]; (try simp [deps, waitsOn, Region.binds, knowing, isV, ownsV, anyV] at hd); simp only [putAll, List.take_succ_cons, List.take_zero, List.drop_succ_cons, List.drop_zero, Act.put, List.setIfInBounds_toArray, List.set_cons_zero, List.set_cons_succ, Nat.zero_add, Nat.reduceAdd]; go_simp; exact ⟨Below.refl _ _, rfl⟩
     case rs2s3 =>
      intro v W hE hd; simp only [Region.wanted, ↓reduceIte]; (try simp [deps, waitsOn, Region.binds, knowing, isV, ownsV, anyV] at hd); simp only [putAll, List.take_succ_cons, List.take_zero, List.drop_succ_cons, List.drop_zero, Act.put, List.setIfInBounds_toArray, List.set_cons_zero, List.set_cons_succ, Nat.zero_add, Nat.reduceAdd]
      have hw : IntKind.i64.wrap ((k : Int) - 1) = (k : Int) - 1 := by rw [IntKind.wrap_i64]; omega
      have g1 : (1 : Int) ≤ (k : Int) := by omega
      have g2 : (k : Int) - 1 < (n : Int) := by omega
      have g3 : ((k : Int) - 1).toNat = k - 1 := by omega
      go_simp
      exact ⟨Below.refl _ _, rfl⟩
     case rs2s4 =>
      intro v W hE hd; simp only [Region.wanted, ↓reduceIte]; (try simp [deps, waitsOn, Region.binds, knowing, isV, ownsV, anyV] at hd); simp only [putAll, List.take_succ_cons, List.take_zero, List.drop_succ_cons, List.drop_zero, Act.put, List.setIfInBounds_toArray, List.set_cons_zero, List.set_cons_succ, Nat.zero_add, Nat.reduceAdd]
      have e1 := cell_later hE F1.out
      go_simp
      exact ⟨Below.refl _ _, rfl⟩
     case rs2s5 | rs2s6 | rs2s7 =>
      intro v W hE hd; simp only [Region.wanted, ↓reduceIte]; (try simp [deps, waitsOn, Region.binds, knowing, isV, ownsV, anyV] at hd); simp only [putAll, List.take_succ_cons, List.take_zero, List.drop_succ_cons, List.drop_zero, Act.put, List.setIfInBounds_toArray, List.set_cons_zero, List.set_cons_succ, Nat.zero_add, Nat.reduceAdd]; go_simp; exact ⟨Below.refl _ _, rfl⟩
     case rs2s8 =>
      intro v W hE hd; simp only [Region.wanted, ↓reduceIte]; (try simp [deps, waitsOn, Region.binds, knowing, isV, ownsV, anyV] at hd); simp only [putAll, List.take_succ_cons, List.take_zero, List.drop_succ_cons, List.drop_zero, Act.put, List.setIfInBounds_toArray, List.set_cons_zero, List.set_cons_succ, Nat.zero_add, Nat.reduceAdd]
      have e1 := cell_later hE F2.out
      go_simp
      exact ⟨Below.refl _ _, rfl⟩
     case rs2s9 =>
      intro v W hE hd; simp only [Region.wanted, ↓reduceIte]; (try simp [deps, waitsOn, Region.binds, knowing, isV, ownsV, anyV] at hd); simp only [putAll, List.take_succ_cons, List.take_zero, List.drop_succ_cons, List.drop_zero, Act.put, List.setIfInBounds_toArray, List.set_cons_zero, List.set_cons_succ, Nat.zero_add, Nat.reduceAdd]
      go_simp
      exact ⟨_, rfl, Below.refl _ _, by show Value.bool _ = _; rw [str_toList, str_toList, hb]; rfl⟩
    ·rintro v W6 hE ⟨-, -, -, -, -, -, -, -, -, e9, -⟩
     have e9 := (show v 9 = _ from e9)
     simp only [putAll, List.take_succ_cons, List.take_zero, List.drop_succ_cons, List.drop_zero, Act.put, List.setIfInBounds_toArray, List.set_cons_zero, List.set_cons_succ, Nat.zero_add, Nat.reduceAdd]
     rw [e9]
     clear e9
     go_wp2_with fail
     go_roundw
     case rel => exact ⟨k + 1, by omega, .inl (by omega), by go_num, Ext.trans' HE.out hE, hn2⟩
     case measure => simp [intOf]; omega
  ·have hlt' : ¬ ((k : Int) < (n : Int)) := by omega
   have hr := hid (rise_true fun i h => HN.out i h (by have := hn.out; omega))
   go_wp2
   go_ret
   exact ⟨by rw [hr.out]; rfl, HE.out⟩
set_option maxRecDepth 100000 in
theorem less_at (a b : Str) (w : World) : Calls Tryz.prog 173 #[.string (str a), .string (str b)] w fun e w' => e = .returned (.bool (bytesBefore a b)) ∧ w = w' := by
 have h1 := str_toList a
 have h2 := str_toList b
 have h3 := tb_less a b
 generalize bytesBefore a b = r at h3 ⊢
 go_enter Tryz.func173, Tryz.ntmps173
 go_wp2
 go_ret
 exact ⟨rfl, rfl⟩
set_option maxRecDepth 100000 in
set_option maxHeartbeats 4000000 in
theorem isSorted_at {w : World} {A : Option Addr} {n c : Nat} {xs : List Str} (h : SlR Rep.txt w (· < w.heap.size) A n c xs) :
  Calls Tryz.prog 196 #[.slice A n c] w fun e w' => Ext w w' ∧ ((e = .returned (.bool true) ∧ NoneBack xs) ∨ (e = .returned (.bool false) ∧ riseB xs = false)) := by
 have hn := hid h.1
 have hnc := h.2.1
 have hcm := h.2.2.1
 have H := hid h
 clear h
 go_enter Tryz.func196, Tryz.ntmps196
 by_cases h0 : n = 0
 ·subst h0
  go_wp2_with fail
  go_loopw [3] (fun i wr => i = .int .i64 (-1) ∧ Hid (Ext w wr)) (fun _ _ => 0)
  case atStart => exact ⟨rfl, Below.refl _ _⟩
  case round =>
   obtain ⟨rfl, HE⟩ := hrel
   go_wp2
   go_ret
   exact ⟨HE.out, .inl ⟨rfl, fun i h => by have := hn.out; omega⟩⟩
 have hs1 : (n : Int) - 1 = ((n - 1 : Nat) : Int) := by omega
 have Hs1 := hid hs1
 have hw1 : IntKind.i64.wrap ((n : Int) - 1) = ((n - 1 : Nat) : Int) := by rw [IntKind.wrap_i64]; omega
 clear hs1
 go_wp2_with fail
 go_loopw [3] (fun i wr => ∃ k : Nat, k ≤ n - 1 ∧ i = .int .i64 (k : Int) ∧ Hid (Ext w wr) ∧ Hid (∀ i (h : i + 1 < xs.length), k ≤ i → bytesBefore (xs[i + 1]'h) (xs[i]'(by omega)) = false)) (fun i _ => (intOf i).toNat)
 case atStart => exact ⟨n - 1, by omega, by first | rfl | (rw [hw1]), Below.refl _ _, fun i _ hi => by have := hn.out; omega⟩
 case round =>
  clear hw1
  obtain ⟨k, hk, rfl, HE, HN⟩ := hrel
  by_cases hlt : 0 < k
  ·have hkx : k - 1 + 1 < xs.length := by have := hn.out; omega
   have hlt' : (0 : Int) < (k : Int) := by omega
   have hlt2 : (k : Int) < (n : Int) := by omega
   have hk00 : ¬ ((k : Int) < 0) := by omega
   have hk0 : (0 : Int) ≤ (k : Int) := by omega
   obtain ⟨b, o, rfl, -, f1, -⟩ := txt_at (H.out.grow HE.out) (k - 1) (by omega)
   obtain ⟨b2, o2, e2, -, f2, -⟩ := txt_at (H.out.grow HE.out) (k - 1 + 1) hkx
   simp only [Option.some.injEq, Addr.mk.injEq, and_true] at e2
   obtain ⟨rfl, rfl⟩ := e2
   cases hb : bytesBefore (xs[k - 1 + 1]'hkx) (xs[k - 1]'(by omega))
   ·have hn2 := hid (show ∀ i (h : i + 1 < xs.length), k - 1 ≤ i → bytesBefore (xs[i + 1]'h) (xs[i]'(by omega)) = false from fun i h hi => by
     by_cases e : i = k - 1
     ·subst e; exact hb
     ·exact HN.out i h (by omega))
    rw [show o + (k - 1 + 1) = o + k by omega] at f2
    generalize xs[k - 1]'(by omega) = x at f1 hb
    generalize xs[k - 1 + 1]'hkx = y at f2 hb
    have F1 := hid f1; have F2 := hid f2; have Hb := hid hb
    clear f1 f2 hb
    go_wp2_with fail
    apply wp_drawn [isV _, isV _, isV _, isV _, isV _, isV _, isV _, isV _, isV _, isV _] (by kernel_rfl)
    ·kernel_rfl
    ·refine ⟨?is1s0, ?is1s1, ?is1s2, ?is1s3, ?is1s4, ?is1s5, ?is1s6, ?is1s7, ?is1s8, ?is1s9, trivial⟩
     case is1s0 | is1s1 | is1s2 =>
      intro v W hE hd; simp only [Region.wanted, ↓reduceIte]; (try simp [deps, waitsOn, Region.binds, knowing, isV, ownsV, anyV] at hd); simp only [putAll, List.take_succ_cons, List.take_zero, List.drop_succ_cons, List.drop_zero, Act.put, List.setIfInBounds_toArray, List.set_cons_zero, List.set_cons_succ, Nat.zero_add, Nat.reduceAdd]; go_simp; exact ⟨Below.refl _ _, rfl⟩
     case is1s3 =>
      intro v W hE hd; simp only [Region.wanted, ↓reduceIte]; (try simp [deps, waitsOn, Region.binds, knowing, isV, ownsV, anyV] at hd); simp only [putAll, List.take_succ_cons, List.take_zero, List.drop_succ_cons, List.drop_zero, Act.put, List.setIfInBounds_toArray, List.set_cons_zero, List.set_cons_succ, Nat.zero_add, Nat.reduceAdd]
      have e1 := cell_later hE F2.out
      go_simp
      exact ⟨Below.refl _ _, rfl⟩
     case is1s4 | is1s5 | is1s6 =>
      intro v W hE hd; simp only [Region.wanted, ↓reduceIte]; (try simp [deps, waitsOn, Region.binds, knowing, isV, ownsV, anyV] at hd); simp only [putAll, List.take_succ_cons, List.take_zero, List.drop_succ_cons, List.drop_zero, Act.put, List.setIfInBounds_toArray, List.set_cons_zero, List.set_cons_succ, Nat.zero_add, Nat.reduceAdd]; go_simp; exact ⟨Below.refl _ _, rfl⟩
     case is1s7 =>
      intro v W hE hd; simp only [Region.wanted, ↓reduceIte]; (try simp [deps, waitsOn, Region.binds, knowing, isV, ownsV, anyV] at hd); simp only [putAll, List.take_succ_cons, List.take_zero, List.drop_succ_cons, List.drop_zero, Act.put, List.setIfInBounds_toArray, List.set_cons_zero, List.set_cons_succ, Nat.zero_add, Nat.reduceAdd]
      have hw : IntKind.i64.wrap ((k : Int) - 1) = (k : Int) - 1 := by rw [IntKind.wrap_i64]; omega
      have g1 : (1 : Int) ≤ (k : Int) := by omega
      have g2 : (k : Int) - 1 < (n : Int) := by omega
      have g3 : ((k : Int) - 1).toNat = k - 1 := by omega
      go_simp
      exact ⟨Below.refl _ _, rfl⟩
     case is1s8 =>
      intro v W hE hd; simp only [Region.wanted, ↓reduceIte]; (try simp [deps, waitsOn, Region.binds, knowing, isV, ownsV, anyV] at hd); simp only [putAll, List.take_succ_cons, List.take_zero, List.drop_succ_cons, List.drop_zero, Act.put, List.setIfInBounds_toArray, List.set_cons_zero, List.set_cons_succ, Nat.zero_add, Nat.reduceAdd]
      have e1 := cell_later hE F1.out
      go_simp
      exact ⟨Below.refl _ _, rfl⟩
     case is1s9 =>
      intro v W hE hd; simp only [Region.wanted, ↓reduceIte]; (try simp [deps, waitsOn, Region.binds, knowing, isV, ownsV, anyV] at hd); simp only [putAll, List.take_succ_cons, List.take_zero, List.drop_succ_cons, List.drop_zero, Act.put, List.setIfInBounds_toArray, List.set_cons_zero, List.set_cons_succ, Nat.zero_add, Nat.reduceAdd]
      go_simp
      refine (less_at y x _).mono ?_
      rintro e w' ⟨rfl, rfl⟩
      go_simp
      exact ⟨Below.refl _ _, rfl⟩
    ·rintro v W6 hE ⟨-, -, -, -, -, -, -, -, -, e9, -⟩
     have e9 := (show v 9 = _ from e9)
     simp only [putAll, List.take_succ_cons, List.take_zero, List.drop_succ_cons, List.drop_zero, Act.put, List.setIfInBounds_toArray, List.set_cons_zero, List.set_cons_succ, Nat.zero_add, Nat.reduceAdd]
     rw [e9, Hb.out]
     clear e9
     have hw : IntKind.i64.wrap ((k : Int) - 1) = ((k - 1 : Nat) : Int) := by rw [IntKind.wrap_i64]; omega
     go_wp2_with fail
     go_roundw
     case rel => exact ⟨k - 1, by omega, by first | rfl | (rw [hw]) | go_num, Ext.trans' HE.out hE, hn2⟩
     case measure => first | (rw [hw]; simp [intOf]; omega) | (simp [intOf]; omega)
   ·have hr := hid (rise_back hkx hb)
    rw [show o + (k - 1 + 1) = o + k by omega] at f2
    generalize xs[k - 1]'(by omega) = x at f1 hb
    generalize xs[k - 1 + 1]'hkx = y at f2 hb
    have F1 := hid f1; have F2 := hid f2; have Hb := hid hb
    clear f1 f2 hb
    go_wp2_with fail
    apply wp_drawn [isV _, isV _, isV _, isV _, isV _, isV _, isV _, isV _, isV _, isV _] (by kernel_rfl)
    ·kernel_rfl
    ·refine ⟨?is2s0, ?is2s1, ?is2s2, ?is2s3, ?is2s4, ?is2s5, ?is2s6, ?is2s7, ?is2s8, ?is2s9, trivial⟩
     case is2s0 | is2s1 | is2s2 =>
      intro v W hE hd; simp only [Region.wanted, ↓reduceIte]; (try simp [deps, waitsOn, Region.binds, knowing, isV, ownsV, anyV] at hd); simp only [putAll, List.take_succ_cons, List.take_zero, List.drop_succ_cons, List.drop_zero, Act.put, List.setIfInBounds_toArray, List.set_cons_zero, List.set_cons_succ, Nat.zero_add, Nat.reduceAdd]; go_simp; exact ⟨Below.refl _ _, rfl⟩
     case is2s3 =>
      intro v W hE hd; simp only [Region.wanted, ↓reduceIte]; (try simp [deps, waitsOn, Region.binds, knowing, isV, ownsV, anyV] at hd); simp only [putAll, List.take_succ_cons, List.take_zero, List.drop_succ_cons, List.drop_zero, Act.put, List.setIfInBounds_toArray, List.set_cons_zero, List.set_cons_succ, Nat.zero_add, Nat.reduceAdd]
      have e1 := cell_later hE F2.out
      go_simp
      exact ⟨Below.refl _ _, rfl⟩
     case is2s4 | is2s5 | is2s6 =>
      intro v W hE hd; simp only [Region.wanted, ↓reduceIte]; (try simp [deps, waitsOn, Region.binds, knowing, isV, ownsV, anyV] at hd); simp only [putAll, List.take_succ_cons, List.take_zero, List.drop_succ_cons, List.drop_zero, Act.put, List.setIfInBounds_toArray, List.set_cons_zero, List.set_cons_succ, Nat.zero_add, Nat.reduceAdd]; go_simp; exact ⟨Below.refl _ _, rfl⟩
     case is2s7 =>
      intro v W hE hd; simp only [Region.wanted, ↓reduceIte]; (try simp [deps, waitsOn, Region.binds, knowing, isV, ownsV, anyV] at hd); simp only [putAll, List.take_succ_cons, List.take_zero, List.drop_succ_cons, List.drop_zero, Act.put, List.setIfInBounds_toArray, List.set_cons_zero, List.set_cons_succ, Nat.zero_add, Nat.reduceAdd]
      have hw : IntKind.i64.wrap ((k : Int) - 1) = (k : Int) - 1 := by rw [IntKind.wrap_i64]; omega
      have g1 : (1 : Int) ≤ (k : Int) := by omega
      have g2 : (k : Int) - 1 < (n : Int) := by omega
      have g3 : ((k : Int) - 1).toNat = k - 1 := by omega
      go_simp
      exact ⟨Below.refl _ _, rfl⟩
     case is2s8 =>
      intro v W hE hd; simp only [Region.wanted, ↓reduceIte]; (try simp [deps, waitsOn, Region.binds, knowing, isV, ownsV, anyV] at hd); simp only [putAll, List.take_succ_cons, List.take_zero, List.drop_succ_cons, List.drop_zero, Act.put, List.setIfInBounds_toArray, List.set_cons_zero, List.set_cons_succ, Nat.zero_add, Nat.reduceAdd]
      have e1 := cell_later hE F1.out
      go_simp
      exact ⟨Below.refl _ _, rfl⟩
     case is2s9 =>
      intro v W hE hd; simp only [Region.wanted, ↓reduceIte]; (try simp [deps, waitsOn, Region.binds, knowing, isV, ownsV, anyV] at hd); simp only [putAll, List.take_succ_cons, List.take_zero, List.drop_succ_cons, List.drop_zero, Act.put, List.setIfInBounds_toArray, List.set_cons_zero, List.set_cons_succ, Nat.zero_add, Nat.reduceAdd]
      go_simp
      refine (less_at y x _).mono ?_
      rintro e w' ⟨rfl, rfl⟩
      go_simp
      exact ⟨Below.refl _ _, rfl⟩
    ·rintro v W6 hE ⟨-, -, -, -, -, -, -, -, -, e9, -⟩
     have e9 := (show v 9 = _ from e9)
     simp only [putAll, List.take_succ_cons, List.take_zero, List.drop_succ_cons, List.drop_zero, Act.put, List.setIfInBounds_toArray, List.set_cons_zero, List.set_cons_succ, Nat.zero_add, Nat.reduceAdd]
     rw [e9, Hb.out]
     clear e9
     go_wp2
     go_ret
     exact ⟨Ext.trans' HE.out hE, .inr ⟨rfl, hr.out⟩⟩
  ·obtain rfl : k = 0 := by omega
   have hlt' : ¬ ((0 : Int) < ((0 : Nat) : Int)) := by omega
   go_wp2
   go_ret
   exact ⟨HE.out, .inl ⟨rfl, fun i h => HN.out i h (by omega)⟩⟩
end Go.Proofs.YtakebdeldndaaaaGreatDoor
/- Which events may be, as the document says. -/
namespace Go.Proofs.YtakebdeldndaaaaGreatDoor
open Go Go.RowKit
set_option linter.unusedSimpArgs false
set_option linter.unusedVariables false
end Go.Proofs.YtakebdeldndaaaaGreatDoor
/- Events, clauses, entries, definitions as arguments of a row. -/
namespace Go.Proofs.YtakebdeldndaaaaGreatDoor
open Go Go.RowKit Go.ChangeShapes Go.WideShapes Go.ChangeAt
set_option maxRecDepth 100000
set_option linter.unusedSimpArgs false
set_option linter.unusedVariables false
def Rep.such {α : Type} (R : Rep α) (p : α → Prop) : Rep α where
 size := R.size
 rel := fun w K x cs => R.rel w K x cs ∧ p x
 len := fun h => R.len h.1
 one := fun h => R.one h.1
 ext := fun h hk => ⟨R.ext h.1 hk, h.2⟩
 mono := fun h hk => ⟨R.mono h.1 hk, h.2⟩
def I64 (n : Int) : Prop := -9223372036854775808 ≤ n ∧ n ≤ 9223372036854775807
theorem int_range {n : Int} (hw : (Lit.int .i64 n).wf = true) : I64 n := by
 simp [Lit.wf, IntKind.min, IntKind.max, IntKind.signed, IntKind.bits] at hw
 unfold I64
 omega
theorem opens_int : Opens (Rep.such Rep.i64 I64) 3 := by
 intro H enc W fuel cs x h
 obtain ⟨n, rfl, -, hw⟩ := DataW.trod_int Tryz.underlying3 h
 exact ⟨n, rfl, int_range hw⟩
theorem str_of (s : ByteArray) : ∃ x : List UInt8, s = str x ∧ x.length = s.size := ⟨s.data.toList, by cases s; rfl, by cases s; rfl⟩
theorem opens_txt : Opens Rep.txt 9 := by
 intro H enc W fuel cs x h
 obtain ⟨s, rfl, -, hw⟩ := DataW.trod_string Tryz.underlying9 h
 obtain ⟨y, rfl, hy⟩ := str_of s
 simp only [maxLen] at hw
 exact ⟨y, rfl, by show y.length ≤ _; omega⟩
theorem opens_two {α β : Type} {R1 : Rep α} {R2 : Rep β} {t : TypeId} {f0 f1 : Field} (ht : Tryz.prog.underlying t = some (.struct #[f0, f1])) (o0 : f0.offset = 0) (o1 : f1.offset = R1.size)
  (h1 : Opens R1 f0.type) (c1 : Tryz.prog.cellsOf f0.type = R1.size) (h2 : Opens R2 f1.type) (c2 : Tryz.prog.cellsOf f1.type = R2.size) (hc : Tryz.prog.cellsOf t = R1.size + R2.size) : Opens (Rep.pair R1 R2) t := by
 intro H enc W fuel cs x h
 obtain ⟨y0, y1, n, -, hl, g0, g1⟩ := trod_struct2 ht h
 rw [o0, c1, List.drop_zero] at g0
 rw [o1, c2] at g1
 obtain ⟨a, ha⟩ := h1 H enc W _ _ _ g0
 obtain ⟨b, hb⟩ := h2 H enc W _ _ _ g1
 rw [hc] at hl
 refine ⟨(a, b), cs.take R1.size, (cs.drop R1.size).take R2.size, ?_, ha, hb⟩
 rw [List.take_of_length_le (l := cs.drop R1.size) (by rw [List.length_drop]; omega), List.take_append_drop]
theorem opens_txts : Opens RTags 41 := opens_slice Tryz.underlying41 (by kernel_rfl) opens_txt
theorem opens_cl : Opens RCl 67 := by
 intro H enc W fuel cs x h
 obtain ⟨⟨a, b⟩, h⟩ := opens_two (R1 := RTags) (R2 := RTags) Tryz.underlying67 rfl rfl opens_txts (by kernel_rfl) opens_txts (by kernel_rfl) (by kernel_rfl) H enc W fuel cs x h
 exact ⟨⟨a, b⟩, h⟩
theorem opens_cls : Opens RCls 68 := opens_slice Tryz.underlying68 (by kernel_rfl) opens_cl
end Go.Proofs.YtakebdeldndaaaaGreatDoor
