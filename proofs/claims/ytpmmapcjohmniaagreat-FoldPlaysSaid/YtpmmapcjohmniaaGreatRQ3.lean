/- The reference's entries: what is found, what is set. -/
import Derived.Test.YtpmmapcjohmniaaGreatRQ2
namespace Go.Proofs.YtpmmapcjohmniaaGreat
open Go Go.RowKit
set_option linter.unusedSimpArgs false
set_option linter.unusedVariables false

/-- One round of set: ahead of the entry, and the entry. -/
def midR (k : Str) (n : Int) (kp : Bool) (s : Ents × Bool) (p : List UInt8 × Int) : Ents × Bool :=
  if (!s.2 && !bytesBefore p.1 k) = true then (if kp = true then s.1 ++ [(k, n)] else s.1, true) else s
def stepR (k : Str) (n : Int) (kp : Bool) (s : Ents × Bool) (p : List UInt8 × Int) : Ents × Bool :=
  if (p.1 == k) = true then midR k n kp s p else ((midR k n kp s p).1 ++ [(p.1, p.2)], (midR k n kp s p).2)
def stR (k : Str) (n : Int) (kp : Bool) (D : Ents) : Ents × Bool := D.foldl (stepR k n kp) ([], false)
def endR (k : Str) (n : Int) (kp : Bool) (s : Ents × Bool) : Ents := if (!s.2 && kp) = true then s.1 ++ [(k, n)] else s.1
theorem stR_take (k : Str) (n : Int) (kp : Bool) {D : Ents} {j : Nat} (h : j < D.length) : stR k n kp (D.take (j + 1)) = stepR k n kp (stR k n kp (D.take j)) D[j] := by
  unfold stR
  rw [List.take_succ_eq_append_getElem h, List.foldl_append]; rfl
theorem fold_put (k : Str) (n : Int) (kp : Bool) : ∀ (D out : Ents), D.foldl (stepR k n kp) (out, true) = (out ++ delI k D, true)
  | [], out => by simp [delI]
  | p :: D, out => by
    rw [List.foldl_cons]
    have hm : midR k n kp (out, true) p = (out, true) := rfl
    by_cases h : (p.1 == k) = true
    · have e : stepR k n kp (out, true) p = (out, true) := by unfold stepR; rw [if_pos h, hm]
      rw [e, fold_put k n kp D out]
      have e2 : delI k (p :: D) = delI k D := by unfold delI; rw [List.filter_cons, h]; rfl
      rw [e2]
    · have e : stepR k n kp (out, true) p = (out ++ [p], true) := by unfold stepR; rw [if_neg h, hm]
      rw [e, fold_put k n kp D (out ++ [p])]
      have h' : (p.1 == k) = false := by simpa using h
      have e2 : delI k (p :: D) = p :: delI k D := by unfold delI; rw [List.filter_cons, h']; rfl
      rw [e2, List.append_assoc]; rfl
theorem ins_head {x : List UInt8 × Int} : ∀ {E : Ents}, (∀ y ∈ E, bytesBefore x.1 y.1 = true) → insI x E = x :: E
  | [], _ => rfl
  | y :: r, h => by unfold insI; rw [if_pos (h y (by simp))]
theorem fold_set (k : Str) (n : Int) (kp : Bool) : ∀ (D out : Ents), UpI D → endR k n kp (D.foldl (stepR k n kp) (out, false)) = out ++ (if kp = true then insI (k, n) (delI k D) else delI k D)
  | [], out, _ => by
    show endR k n kp (out, false) = _
    unfold endR
    cases kp <;> simp [delI, insI]
  | p :: D, out, hu => by
    obtain ⟨h1, h2⟩ := List.pairwise_cons.1 hu
    rw [List.foldl_cons]
    cases hb : bytesBefore p.1 k
    · have hm : midR k n kp (out, false) p = (if kp = true then out ++ [(k, n)] else out, true) := by unfold midR; rw [hb]; rfl
      have hall : ∀ y ∈ delI k D, bytesBefore k y.1 = true := fun y hy => by
        have hy2 := h1 y (List.mem_filter.1 hy).1
        by_cases e : p.1 = k
        · rw [← e]; exact hy2
        · rcases tb_total p.1 k e with h | h
          · rw [h] at hb; cases hb
          · exact tb_trans h hy2
      by_cases h : (p.1 == k) = true
      · have e : stepR k n kp (out, false) p = (if kp = true then out ++ [(k, n)] else out, true) := by unfold stepR; rw [if_pos h, hm]
        have e2 : delI k (p :: D) = delI k D := by unfold delI; rw [List.filter_cons, h]; rfl
        rw [e, fold_put, e2]
        unfold endR
        cases kp
        · simp
        · simp only [Bool.not_true, Bool.false_and, Bool.false_eq_true, if_false, if_true]
          rw [ins_head (x := (k, n)) hall, List.append_assoc]; rfl
      · have e : stepR k n kp (out, false) p = ((if kp = true then out ++ [(k, n)] else out) ++ [p], true) := by unfold stepR; rw [if_neg h, hm]
        have h' : (p.1 == k) = false := by simpa using h
        have e2 : delI k (p :: D) = p :: delI k D := by unfold delI; rw [List.filter_cons, h']; rfl
        have hkp : bytesBefore k p.1 = true := by
          rcases tb_total p.1 k (by simpa using h) with h | h
          · rw [h] at hb; cases hb
          · exact h
        rw [e, fold_put, e2]
        unfold endR
        cases kp
        · simp
        · simp only [Bool.not_true, Bool.false_and, Bool.false_eq_true, if_false, if_true]
          rw [ins_head (x := (k, n)) (fun y hy => by rcases List.mem_cons.1 hy with rfl | hy; exact hkp; exact hall y hy), List.append_assoc, List.append_assoc]; rfl
    · have hne := tb_ne hb
      have h' : (p.1 == k) = false := beq_eq_false_iff_ne.2 hne
      have hm : midR k n kp (out, false) p = (out, false) := by unfold midR; rw [hb]; rfl
      have e : stepR k n kp (out, false) p = (out ++ [p], false) := by unfold stepR; rw [if_neg (by rw [h']; decide), hm]
      have e2 : delI k (p :: D) = p :: delI k D := by unfold delI; rw [List.filter_cons, h']; rfl
      rw [e, fold_set k n kp D (out ++ [p]) h2, e2]
      cases kp
      · simp
      · simp only [if_true]
        have e3 : insI (k, n) (p :: delI k D) = p :: insI (k, n) (delI k D) := by
          rw [insI]
          rw [if_neg (by show ¬ bytesBefore k p.1 = true; rw [tb_asymm hb]; decide)]
        rw [e3, List.append_assoc]; rfl
theorem set_end (d : DefV) (k : Str) (n : Int) {D : Ents} (hu : UpI D) {kp : Bool} (hk : kp = (n != 0 || decide (d.kind = 3))) : endR k n kp (stR k n kp D) = setF d k n D := by
  unfold stR
  rw [fold_set k n kp D [] hu, List.nil_append]
  unfold setF putI
  rw [hk]
  by_cases h : n = 0 ∧ d.kind ≠ 3
  · rw [if_pos h, if_neg (by rw [h.1, decide_eq_false h.2]; decide)]
  · rw [if_neg h, if_pos]
    by_cases h0 : n = 0
    · have h3 : d.kind = 3 := Classical.byContradiction fun h3 => h ⟨h0, h3⟩
      rw [h3]; simp
    · simp [h0]
theorem len_stR (k : Str) (n : Int) (kp : Bool) {D : Ents} : ∀ j, (stR k n kp (D.take j)).1.length ≤ 2 * j := fun j => by
  induction j with
  | zero => simp [stR]
  | succ j ih =>
    by_cases h : j < D.length
    · rw [stR_take k n kp h]
      have hm : ∀ s : Ents × Bool, (midR k n kp s D[j]).1.length ≤ s.1.length + 1 := fun s => by
        unfold midR; split
        · split <;> simp
        · omega
      have := hm (stR k n kp (D.take j))
      unfold stepR
      split
      · omega
      · simp only [List.length_append, List.length_cons, List.length_nil]; omega
    · rw [List.take_of_length_le (by omega)]
      rw [List.take_of_length_le (by omega)] at ih
      omega
set_option maxRecDepth 100000 in
theorem refFits_at (n : Int) (w : World) : Calls Tryz.prog 23 #[.int .i64 n] w fun e w' => e = .returned (.bool (fitsN n)) ∧ w' = w := by
  go_enter Tryz.func23, Tryz.ntmps23
  by_cases h1 : -1125899906842624 ≤ n
  · by_cases h2 : n ≤ 1125899906842624
    · have hr := hid (show fitsN n = true from decide_eq_true ⟨h1, h2⟩)
      go_wp2
      go_ret
      exact ⟨by rw [hr.out]; rfl, rfl⟩
    · have hr := hid (show fitsN n = false from decide_eq_false fun h => h2 h.2)
      go_wp2
      go_ret
      exact ⟨by rw [hr.out]; rfl, rfl⟩
  · have hr := hid (show fitsN n = false from decide_eq_false fun h => h1 h.1)
    go_wp2
    go_ret
    exact ⟨by rw [hr.out]; rfl, rfl⟩
/-- The state's cells. -/
theorem RefSt.cells {w : World} {S : Nat → Prop} {y : Nat} {d : DefV} {D : Ents} (h : RefSt w S y d D) : ∃ A c B b, w.cell? ⟨y, 0, none⟩ = some (.int .i64 d.kind) ∧ w.cell? ⟨y, 1, none⟩ = some (.string (str d.field)) ∧ w.cell? ⟨y, 2, none⟩ = some (.slice A d.q.length c) ∧ w.cell? ⟨y, 3, none⟩ = some (.slice B D.length b) ∧
    SlR RCl w (Out S w) A d.q.length c d.q ∧ SlR REnt w (Out S w) B D.length b D ∧ (∀ o, w.frozen? ⟨y, o, none⟩ = false) := by
  obtain ⟨A, c, B, m, b, h1, h2, h3⟩ := h.box
  obtain rfl := h3.1
  refine ⟨A, c, B, b, ?_, ?_, ?_, ?_, h2, h3, fun o => by simp [World.frozen?, h1]⟩ <;> · rw [cell_of_row _ _ _ _ _ _ h1]; rfl
set_option maxRecDepth 100000 in
set_option maxHeartbeats 2000000 in
theorem refGet_at {w : World} {S : Nat → Prop} {y : Nat} {d : DefV} {D : Ents} (h : RefSt w S y d D) (key : Str) :
    Calls Tryz.prog 30 #[.pointer (some ⟨y, 0, none⟩), .string (str key)] w fun e w' => e = .returned (.int .i64 (atI D key)) ∧ w' = w := by
  obtain ⟨A, c, B, b, -, -, -, c3, -, hL, -⟩ := h.cells
  have hnc := hL.2.1
  have hcm := hL.2.2.1
  have H := hid hL
  have hst := str_toList
  clear h hL
  generalize hl : D.length = n at *
  have hn := hid hl
  clear hl
  go_enter Tryz.func30, Tryz.ntmps30
  go_wp2_with fail
  go_loopw [5] (fun i wr => wr = w ∧ ∃ k : Nat, k ≤ n ∧ i = .int .i64 (k : Int) ∧ Hid (∀ j (hj : j < k) (h : j < D.length), (D[j].1 == key) = false)) (fun i _ => n - (intOf i).toNat)
  case atStart => exact ⟨rfl, 0, by omega, rfl, fun j hj => by omega⟩
  case round =>
    obtain ⟨rfl, k, hk, rfl, HN⟩ := hrel
    by_cases hlt : k < n
    · have hkx : k < D.length := by have := hn.out; omega
      have hlt' : (k : Int) < (n : Int) := by omega
      have hk00 : ¬ ((k : Int) < 0) := by omega
      have hk0 : (0 : Int) ≤ (k : Int) := by omega
      obtain ⟨b', o, rfl, -, f0, f1, -⟩ := field_at H.out k hkx
      cases hpx : (D[k].1 == key)
      · have hn2 := hid (prefix_next (p := fun f : Str × Int => f.1 == key) HN.out hkx hpx)
        generalize D[k].1 = x at f0 hpx
        generalize D[k].2 = y at f1
        go_wp2_with fail
        go_roundw
        case rel => exact ⟨trivial, k + 1, by omega, by go_num, hn2⟩
        case measure => simp [intOf]; omega
      · have hb := hid (find_upto hkx hpx HN.out)
        have hr := hid (show atI D key = D[k].2 by unfold atI; have := hb.out; simp only [valF] at this; rw [this]; rfl)
        generalize D[k].1 = x at f0 hpx
        generalize D[k].2 = y at f1 hr
        go_wp2
        go_ret
        exact ⟨by rw [hr.out]; rfl, rfl⟩
    · obtain rfl : k = n := by omega
      have hlt' : ¬ ((k : Int) < (k : Int)) := by omega
      have hb := hid (find_no (fs := D) (f := key) fun j h => HN.out j (by have := hn.out; omega) h)
      have hr := hid (show atI D key = 0 by unfold atI; have := hb.out; simp only [valF] at this; rw [this]; rfl)
      go_wp2
      go_ret
      exact ⟨by rw [hr.out]; rfl, rfl⟩
end Go.Proofs.YtpmmapcjohmniaaGreat
