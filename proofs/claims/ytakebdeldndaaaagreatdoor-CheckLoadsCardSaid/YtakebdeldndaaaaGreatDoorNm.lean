/- Several texts of this claim's, one behind the other. -/
import Derived.Test.YtakebdeldndaaaaGreatDoorFound
import Derived.Lib.DecodeN
import Derived.Laws.RangeAny
import Derived.Lib.OthersKept
import Derived.Test.YtakebdeldndaaaaGreatDoorShelf
/- Names, by bytes: what may be one; and what the runes of a text tell of it. -/
namespace Go.Proofs.YtakebdeldndaaaaGreatDoor
open Go Go.RowKit
set_option linter.unusedSimpArgs false
set_option linter.unusedVariables false
def plainB (c : UInt8) : Bool := (decide (97 ≤ c.toNat) && decide (c.toNat ≤ 122)) || (decide (48 ≤ c.toNat) && decide (c.toNat ≤ 57)) || decide (c.toNat = 45) || decide (c.toNat = 95)
def twoB (a b : UInt8) : Bool := (decide (a.toNat = 195) && (decide (b.toNat = 169) || decide (b.toNat = 184) || decide (b.toNat = 159))) || (decide (a.toNat = 206) && decide (b.toNat = 187))
def allN : List UInt8 → Bool
 | [] => true
 | a :: l => if plainB a then allN l else match l with
  | [] => false
  | b :: r => twoB a b && allN r
theorem allN_cons (a : UInt8) (l : List UInt8) : allN (a :: l) = if plainB a then allN l else match l with
  | [] => false
  | b :: r => twoB a b && allN r := by
 rw [allN.eq_def]
def badB (c : UInt8) : Bool := (decide (48 ≤ c.toNat) && decide (c.toNat ≤ 57)) || decide (c.toNat = 45)
def badHead : List UInt8 → Bool
 | [] => false
 | c :: _ => badB c
def mayN (s : List UInt8) : Bool := decide (1 ≤ s.length) && decide (s.length ≤ 24) && !badHead s && allN s
def letR (c : Int) : Bool := (decide (97 ≤ c) && decide (c ≤ 122)) || (decide (48 ≤ c) && decide (c ≤ 57)) || decide (c = 45) || decide (c = 95) || decide (c = 233) || decide (c = 248) || decide (c = 223) || decide (c = 955)
theorem str_get (s : List UInt8) (i : Nat) : (str s).get! i = (s[i]?).getD 0 := by
 show (s.toArray)[i]! = _
 rw [getElem!_def]
 simp only [List.getElem?_toArray]
 cases s[i]? <;> rfl
def byteAt (s : List UInt8) (i : Nat) : Nat := ((s[i]?).getD 0).toNat
theorem byteAt_lt (s : List UInt8) (i : Nat) : byteAt s i < 256 := UInt8.toNat_lt _
theorem decode_str (s : List UInt8) (i : Nat) : Utf8.decode (str s) i = Lib.decodeN (s.length - i) (byteAt s i) (byteAt s (i + 1)) (byteAt s (i + 2)) (byteAt s (i + 3)) := by
 rw [Lib.decode_at, str_get, str_get, str_get, str_get, str_size]
 rfl
theorem drop_two {s : List UInt8} {i : Nat} (h : i < s.length) : ∃ a l, s.drop i = a :: l ∧ l = s.drop (i + 1) ∧ a.toNat = byteAt s i := by
 refine ⟨s[i], s.drop (i + 1), List.drop_eq_getElem_cons h, rfl, ?_⟩
 unfold byteAt; rw [List.getElem?_eq_getElem h]; rfl
theorem dec_low {n b0 b1 b2 b3 c wd : Nat} (h0 : ¬ b0 < 128) (hd : Lib.decodeN n b0 b1 b2 b3 = (c, wd)) (hc : c < 1000) : b0 / 32 = 6 ∧ 1 < n ∧ b1 / 64 = 2 ∧ c = b0 % 32 * 64 + b1 % 64 ∧ wd = 2 ∧ 128 ≤ c := by
 unfold Lib.decodeN at hd
 rw [if_neg h0] at hd
 by_cases h1 : b0 / 32 = 6 ∧ (1 < n ∧ b1 / 64 = 2)
 ·rw [if_pos h1] at hd
  split at hd
  ·rename_i hv
   simp only [Prod.mk.injEq] at hd
   exact ⟨h1.1, h1.2.1, h1.2.2, hd.1.symm, hd.2.symm, by rw [← hd.1]; exact hv⟩
  ·simp only [Prod.mk.injEq] at hd
   exact absurd hc (by rw [← hd.1]; decide)
 ·rw [if_neg h1] at hd
  split at hd
  ·split at hd
   ·rename_i hv
    simp only [Prod.mk.injEq] at hd
    exact absurd hc (by rw [← hd.1]; exact Nat.not_lt.2 (Nat.le_trans (by decide) hv.1))
   ·simp only [Prod.mk.injEq] at hd
    exact absurd hc (by rw [← hd.1]; decide)
  ·split at hd
   ·split at hd
    ·rename_i hv
     simp only [Prod.mk.injEq] at hd
     exact absurd hc (by rw [← hd.1]; exact Nat.not_lt.2 (Nat.le_trans (by decide) hv.1))
    ·simp only [Prod.mk.injEq] at hd
     exact absurd hc (by rw [← hd.1]; decide)
   ·simp only [Prod.mk.injEq] at hd
    exact absurd hc (by rw [← hd.1]; decide)
set_option maxHeartbeats 4000000 in
theorem allN_step {s : List UInt8} {i : Nat} (h : i < s.length) {c wd : Nat} (hd : Utf8.decode (str s) i = (c, wd)) :
  allN (s.drop i) = (letR (c : Int) && allN (s.drop (i + wd))) ∧ (letR (c : Int) = true → 1 ≤ wd ∧ i + wd ≤ s.length ∧ ((decide ((c : Int) ≤ 57)) = true ↔ badB ((s[i]?).getD 0) = true)) := by
 rw [decode_str] at hd
 obtain ⟨a, l, e1, e2, ea⟩ := drop_two h
 have hb1 := byteAt_lt s (i + 1)
 have hb2 := byteAt_lt s (i + 2)
 have hb3 := byteAt_lt s (i + 3)
 have hb0 := byteAt_lt s i
 have hbad : badB ((s[i]?).getD 0) = ((decide (48 ≤ byteAt s i) && decide (byteAt s i ≤ 57)) || decide (byteAt s i = 45)) := rfl
 rw [hbad, e1]
 have hone : byteAt s i < 128 ∧ c = byteAt s i ∧ wd = 1 ∨ 128 ≤ byteAt s i ∧ (letR (c : Int) = true → wd = 2 ∧ i + 2 ≤ s.length ∧ ((byteAt s i = 195 ∧ (byteAt s (i + 1) = 169 ∨ byteAt s (i + 1) = 184 ∨ byteAt s (i + 1) = 159)) ∨ (byteAt s i = 206 ∧ byteAt s (i + 1) = 187)) ∧ 57 < c) ∧
   (i + 2 ≤ s.length → ((byteAt s i = 195 ∧ (byteAt s (i + 1) = 169 ∨ byteAt s (i + 1) = 184 ∨ byteAt s (i + 1) = 159)) ∨ (byteAt s i = 206 ∧ byteAt s (i + 1) = 187)) → letR (c : Int) = true) := by
  generalize byteAt s i = b0 at *
  generalize byteAt s (i + 1) = b1 at *
  generalize byteAt s (i + 2) = b2 at *
  generalize byteAt s (i + 3) = b3 at *
  obtain ⟨n, hn⟩ : ∃ n, n = s.length - i := ⟨_, rfl⟩
  rw [← hn] at hd
  have hlen : ∀ k, i + k ≤ s.length ↔ k ≤ n := fun k => by omega
  rw [hlen]
  unfold Lib.decodeN at hd
  by_cases h0 : b0 < 128
  ·rw [if_pos h0] at hd
   cases hd
   exact .inl ⟨h0, rfl, rfl⟩
  ·refine .inr ⟨by omega, ?_, ?_⟩
   ·intro hl
    simp only [letR, Bool.or_eq_true, Bool.and_eq_true, decide_eq_true_eq] at hl
    have hd' : Lib.decodeN n b0 b1 b2 b3 = (c, wd) := by unfold Lib.decodeN; exact hd
    obtain ⟨g1, g2, g3, g4, g5, g6⟩ := dec_low h0 hd' (by omega)
    clear hd hd'
    omega
   ·intro hn2 hb
    rw [if_neg h0] at hd
    simp only [letR, Bool.or_eq_true, Bool.and_eq_true, decide_eq_true_eq]
    rw [if_pos (by omega)] at hd
    rw [if_pos (by omega)] at hd
    simp only [Prod.mk.injEq] at hd
    omega
 rcases hone with ⟨h0, hc, hw⟩ | ⟨h0, h1, h2⟩
 ·have hp : plainB a = letR (c : Int) := by
   unfold plainB letR
   rw [ea, hc, Bool.eq_iff_iff]
   simp only [Bool.or_eq_true, Bool.and_eq_true, decide_eq_true_eq]
   omega
  constructor
  ·rw [hw, ← e2]
   rw [allN_cons, hp]
   cases hl : letR (c : Int)
   ·have ht : ∀ b, twoB a b = false := fun b => by
     unfold twoB
     rw [Bool.eq_false_iff]
     simp only [ne_eq, Bool.or_eq_true, Bool.and_eq_true, decide_eq_true_eq]
     omega
    cases l <;> simp [ht]
   ·simp
  ·intro hl
   refine ⟨by omega, by omega, ?_⟩
   simp only [letR, Bool.or_eq_true, Bool.and_eq_true, decide_eq_true_eq] at hl ⊢
   omega
 ·have hp : plainB a = false := by
   unfold plainB
   rw [Bool.eq_false_iff]
   simp only [ne_eq, Bool.or_eq_true, Bool.and_eq_true, decide_eq_true_eq]
   omega
  constructor
  ·rw [allN_cons, hp]
   by_cases hlen : i + 2 ≤ s.length
   ·obtain ⟨b, r, f1, f2, fb⟩ := drop_two (s := s) (i := i + 1) (by omega)
    have e3 : l = b :: r := by rw [e2, f1]
    subst e3
    have ht : twoB a b = letR (c : Int) := by
     rw [Bool.eq_iff_iff]
     unfold twoB
     simp only [Bool.or_eq_true, Bool.and_eq_true, decide_eq_true_eq]
     rw [ea, fb]
     constructor
     ·intro h; exact h2 hlen (by omega)
     ·intro h; have := (h1 h).2.2.1; omega
    simp only [Bool.false_eq_true, if_false, ht]
    cases hl : letR (c : Int)
    ·simp
    ·have := (h1 hl).1
     rw [this, f2]
   ·have e3 : l = [] := by rw [e2, List.drop_eq_nil_of_le (by omega)]
    subst e3
    have : letR (c : Int) = false := by
     cases hl : letR (c : Int)
     ·rfl
     ·exact absurd (h1 hl).2.1 hlen
    rw [this]; simp
  ·intro hl
   obtain ⟨g1, g2, g3, g4⟩ := h1 hl
   refine ⟨by omega, by omega, ?_⟩
   simp only [Bool.or_eq_true, Bool.and_eq_true, decide_eq_true_eq]
   omega
def leftN (s : List UInt8) (i : Nat) : Bool := if i = 0 then !badHead s && allN s else allN (s.drop i)
theorem leftN_step {s : List UInt8} {i : Nat} (h : i < s.length) {c wd : Nat} (hd : Utf8.decode (str s) i = (c, wd)) :
  leftN s i = (letR (c : Int) && !(decide (i = 0) && decide ((c : Int) ≤ 57)) && leftN s (i + wd)) ∧ (letR (c : Int) = true → 1 ≤ wd ∧ i + wd ≤ s.length) := by
 obtain ⟨h1, h2⟩ := allN_step h hd
 refine ⟨?_, fun hl => ⟨(h2 hl).1, (h2 hl).2.1⟩⟩
 cases hl : letR (c : Int)
 ·rw [hl] at h1
  unfold leftN
  by_cases hi : i = 0
  ·subst hi
   simp only [List.drop_zero] at h1
   simp [h1]
  ·rw [if_neg hi, h1]; simp
 ·obtain ⟨hw, hle, hbad⟩ := h2 hl
  rw [hl] at h1
  unfold leftN
  rw [if_neg (show ¬ (i + wd = 0) by omega)]
  by_cases hi : i = 0
  ·subst hi
   simp only [List.drop_zero] at h1
   have hh : badHead s = badB ((s[0]?).getD 0) := by cases s <;> simp [badHead] at *
   have hb : decide ((c : Int) ≤ 57) = badB ((s[0]?).getD 0) := Bool.eq_iff_iff.2 hbad
   rw [hh, hb, h1]
   simp
  ·rw [if_neg hi, h1]; simp [hi]
theorem leftN_end (s : List UInt8) (h : 1 ≤ s.length) : leftN s s.length = true := by
 unfold leftN
 rw [if_neg (by omega), List.drop_eq_nil_of_le (Nat.le_refl _)]
 rfl
theorem mayN_left {s : List UInt8} (h1 : 1 ≤ s.length) (h2 : s.length ≤ 24) : mayN s = leftN s 0 := by
 unfold mayN leftN
 simp [h1, h2]
end Go.Proofs.YtakebdeldndaaaaGreatDoor
/- Names: what the program says may be one. -/
namespace Go.Proofs.YtakebdeldndaaaaGreatDoor
open Go Go.RowKit
set_option linter.unusedSimpArgs false
set_option linter.unusedVariables false
theorem letR_true {c : Int} (h : (97 ≤ c ∧ c ≤ 122) ∨ (48 ≤ c ∧ c ≤ 57) ∨ c = 45 ∨ c = 95 ∨ c = 233 ∨ c = 248 ∨ c = 223 ∨ c = 955) : letR c = true := by
 unfold letR
 simp only [Bool.or_eq_true, Bool.and_eq_true, decide_eq_true_eq]
 omega
theorem letR_false {c : Int} (h : ¬ ((97 ≤ c ∧ c ≤ 122) ∨ (48 ≤ c ∧ c ≤ 57) ∨ c = 45 ∨ c = 95 ∨ c = 233 ∨ c = 248 ∨ c = 223 ∨ c = 955)) : letR c = false := by
 unfold letR
 rw [Bool.eq_false_iff]
 simp only [ne_eq, Bool.or_eq_true, Bool.and_eq_true, decide_eq_true_eq]
 omega
set_option maxRecDepth 100000 in
set_option maxHeartbeats 4000000 in
theorem letter_at (c : Int) (w : World) : Calls Tryz.prog 165 #[.int .i32 c] w fun e w' => e = .returned (.bool (letR c)) ∧ w = w' := by
 obtain ⟨b, hb⟩ : ∃ b, b = letR c := ⟨_, rfl⟩
 rw [← hb]
 have hb' := hid hb
 clear hb
 go_enter Tryz.func165, Tryz.ntmps165
 go_wp2
 all_goals go_ret
 all_goals refine ⟨?_, rfl⟩
 all_goals rw [hb'.out]
 all_goals simp only [beq_iff_eq, beq_eq_false_iff_ne, ne_eq] at *
 all_goals first
  | (rw [letR_true (by omega)]; rfl)
  | (rw [letR_false (by omega)]; rfl)
set_option maxRecDepth 100000 in
set_option maxHeartbeats 4000000 in
theorem mayN_at (s : List UInt8) (w : World) : Calls Tryz.prog 125 #[.string (str s)] w fun e w' => e = .returned (.bool (mayN s)) ∧ Ext w w' := by
 have hsz := hid (str_size s)
 have hl := fun ty w => len_str s ty w
 by_cases h0 : s.length = 0
 ·have hb := hid (show mayN s = false by unfold mayN; simp [h0])
  have h0I : (s.length : Int) = 0 := by omega
  go_enter Tryz.func125, Tryz.ntmps125
  go_wp2
  go_ret
  exact ⟨by rw [hb.out]; rfl, Below.refl _ _⟩
 by_cases h24 : s.length ≤ 24
 rotate_left
 ·have hb := hid (show mayN s = false by unfold mayN; simp [h24])
  have h0I : ¬ ((s.length : Int) = 0) := by omega
  have h0b : ((s.length : Int) == 0) = false := beq_eq_false_iff_ne.2 h0I
  have h1I : (24 : Int) < (s.length : Int) := by omega
  go_enter Tryz.func125, Tryz.ntmps125
  go_wp2
  go_ret
  exact ⟨by rw [hb.out]; rfl, Below.refl _ _⟩
 have Hm := hid (mayN_left (s := s) (by omega) h24)
 have h0I : ¬ ((s.length : Int) = 0) := by omega
 have h1I : ¬ ((24 : Int) < (s.length : Int)) := by omega
 have h0b : ((s.length : Int) == 0) = false := beq_eq_false_iff_ne.2 h0I
 have H1 := hid (show 1 ≤ s.length by omega)
 clear h0 h24
 go_enter Tryz.func125, Tryz.ntmps125
 go_wp2_with fail
 go_loopw [] (fun wr => ∃ pos : Nat, pos ≤ s.length ∧ wr.heap[w.heap.size]? = some (.stringIter (str s) pos) ∧ Hid (Ext w wr) ∧ Hid (mayN s = leftN s pos)) (fun wr => s.length - wr.iterPos w.heap.size)
 case atStart => exact ⟨0, by omega, World.iter_heap w (str s) 0, (Below.refl _ _).alloc (Nat.le_refl _) _, Hm⟩
 case round =>
  obtain ⟨pos, hps, hit, HE, HL⟩ := hrel
  by_cases hp : pos < s.length
  ·obtain ⟨c, wd, hd⟩ : ∃ c wd, Utf8.decode (str s) pos = (c, wd) := ⟨_, _, rfl⟩
   have hnx : ∀ ty, (Instr.next (.pointer (some ⟨w.heap.size, 0, none⟩)) true ty).run Tryz.prog wr = .ok (.tuple #[.bool true, .int .i64 pos, .int .i32 c]) (wr.iterAt w.heap.size (str s) (pos + wd)) := fun ty => by
    have := Lib.run_next_any_at (P := Tryz.prog) wr w.heap.size (str s) pos ty hit (by rw [hsz.out]; exact hp)
    rw [hd] at this; exact this
   have hit2 := Lib.iterAt_heap wr w.heap.size (str s) pos (pos + wd) hit
   have HE2 := hid (Lib.below_iterAt HE.out (k := w.heap.size) (Nat.le_refl _) (str s) (pos + wd))
   obtain ⟨s1, s2⟩ := leftN_step hp hd
   have S1 := hid s1; have S2 := hid s2
   have Hit := hid hit
   clear s1 s2 hd hit
   generalize hw2 : wr.iterAt w.heap.size (str s) (pos + wd) = w2 at hnx hit2 HE2
   have Hw2 := hid hw2
   clear hw2
   go_wp2_with fail
   refine (letter_at c w2).mono ?_
   rintro e w' ⟨rfl, rfl⟩
   cases hlr : letR (c : Int)
   ·have hb := hid (show mayN s = false by rw [HL.out, S1.out, hlr]; rfl)
    clear hnx
    go_wp2
    go_ret
    exact ⟨by rw [hb.out]; rfl, HE2.out⟩
   ·have hS := S2.out hlr
    by_cases hq : pos = 0 ∧ (c : Int) ≤ 57
    ·have hb := hid (show mayN s = false by rw [HL.out, S1.out, hlr, decide_eq_true hq.1, decide_eq_true hq.2]; rfl)
     have hq1 : (pos : Int) = 0 := by omega
     have hq2 := hq.2
     clear hnx hq
     go_wp2
     go_ret
     exact ⟨by rw [hb.out]; rfl, HE2.out⟩
    ·have hb := hid (show mayN s = leftN s (pos + wd) by
      rw [HL.out, S1.out, hlr]
      have : (decide (pos = 0) && decide ((c : Int) ≤ 57)) = false := by
       rw [← Bool.decide_and]; exact decide_eq_false hq
      rw [this]; rfl)
     have hx : ¬ ((pos : Int) = 0) ∨ ((pos : Int) = 0 ∧ ¬ ((c : Int) ≤ 57)) := by omega
     have hmes : wr.iterPos w.heap.size = pos := by unfold World.iterPos; rw [Hit.out]
     have hmes2 : w2.iterPos w.heap.size = pos + wd := by unfold World.iterPos; rw [hit2]
     have Hmes := hid hmes; have Hmes2 := hid hmes2
     clear hnx hq hmes hmes2
     rcases hx with hx | ⟨hx1, hx2⟩
     ·go_wp2_with fail
      go_roundw
      case rel => exact ⟨pos + wd, hS.2, hit2, HE2, hb⟩
      case measure => rw [Hmes.out, Hmes2.out]; omega
     ·go_wp2_with fail
      go_roundw
      case rel => exact ⟨pos + wd, hS.2, hit2, HE2, hb⟩
      case measure => rw [Hmes.out, Hmes2.out]; omega
  ·obtain rfl : pos = s.length := by omega
   have hnx : ∀ ty, (Instr.next (.pointer (some ⟨w.heap.size, 0, none⟩)) true ty).run Tryz.prog wr = .ok (.tuple #[.bool false]) wr := fun ty => Lib.run_next_end_at wr w.heap.size (str s) _ ty hit (by rw [hsz.out]; omega)
   have hb := hid (show mayN s = true by rw [HL.out, leftN_end s H1.out])
   clear hit
   go_wp2
   go_ret
   exact ⟨by rw [hb.out]; rfl, HE.out⟩
end Go.Proofs.YtakebdeldndaaaaGreatDoor
/- Names: the document's answer. -/
namespace Go.Proofs.YtakebdeldndaaaaGreatDoor
open Go Go.RowKit
set_option linter.unusedSimpArgs false
set_option linter.unusedVariables false
def lettersL : List (List UInt8) := [[195, 169], [195, 184], [195, 159], [206, 187]]
def beg (s : List UInt8) (i : Nat) (t : List UInt8) : Bool := decide (i + t.length ≤ s.length) && (((s.take (i + t.length)).drop i) == t)
def letLen (s : List UInt8) (i : Nat) : Nat := if plainB ((s[i]?).getD 0) then 1 else if lettersL.any (beg s i) then 2 else 0
theorem take_two {s : List UInt8} {i : Nat} (h : i + 2 ≤ s.length) : (s.take (i + 2)).drop i = [s[i]'(by omega), s[i + 1]'(by omega)] := by
 rw [List.drop_take, show i + 2 - i = 2 by omega, List.drop_eq_getElem_cons (show i < s.length by omega), List.drop_eq_getElem_cons (show i + 1 < s.length by omega)]
 rfl
theorem any_two {s : List UInt8} {i : Nat} (h : i + 2 ≤ s.length) : lettersL.any (beg s i) = twoB (s[i]'(by omega)) (s[i + 1]'(by omega)) := by
 have e : ∀ t ∈ lettersL, beg s i t = ([s[i]'(by omega), s[i + 1]'(by omega)] == t) := by
  intro t ht
  have hl : t.length = 2 := by
   simp only [lettersL, List.mem_cons, List.not_mem_nil, or_false] at ht
   rcases ht with rfl | rfl | rfl | rfl <;> rfl
  unfold beg
  rw [hl, decide_eq_true h, Bool.true_and, take_two h]
 have e2 : lettersL.any (beg s i) = lettersL.any (fun t => [s[i]'(by omega), s[i + 1]'(by omega)] == t) := by
  rw [Bool.eq_iff_iff, List.any_eq_true, List.any_eq_true]
  constructor
  ·rintro ⟨t, ht, hb⟩; exact ⟨t, ht, by rw [← e t ht]; exact hb⟩
  ·rintro ⟨t, ht, hb⟩; exact ⟨t, ht, by rw [e t ht]; exact hb⟩
 rw [e2]
 generalize s[i]'(by omega) = a
 generalize s[i + 1]'(by omega) = b
 rw [Bool.eq_iff_iff]
 unfold twoB
 simp only [lettersL, List.any_cons, List.any_nil, Bool.or_false, Bool.or_eq_true, Bool.and_eq_true, decide_eq_true_eq, beq_iff_eq, List.cons.injEq, and_true, ← UInt8.toNat_inj]
 have h1 : (195 : UInt8).toNat = 195 := rfl
 have h2 : (169 : UInt8).toNat = 169 := rfl
 have h3 : (184 : UInt8).toNat = 184 := rfl
 have h4 : (159 : UInt8).toNat = 159 := rfl
 have h5 : (206 : UInt8).toNat = 206 := rfl
 have h6 : (187 : UInt8).toNat = 187 := rfl
 rw [h1, h2, h3, h4, h5, h6]
 omega
theorem any_short {s : List UInt8} {i : Nat} (h : ¬ (i + 2 ≤ s.length)) : lettersL.any (beg s i) = false := by
 rw [List.any_eq_false]
 intro t ht
 have hl : t.length = 2 := by
  simp only [lettersL, List.mem_cons, List.not_mem_nil, or_false] at ht
  rcases ht with rfl | rfl | rfl | rfl <;> rfl
 unfold beg
 rw [hl, decide_eq_false h]
 simp
theorem letLen_step {s : List UInt8} {i : Nat} (h : i < s.length) : (letLen s i = 0 → allN (s.drop i) = false) ∧ (letLen s i ≠ 0 → i + letLen s i ≤ s.length ∧ letLen s i ≤ 2 ∧ allN (s.drop i) = allN (s.drop (i + letLen s i))) := by
 have hg : (s[i]?).getD 0 = s[i] := by rw [List.getElem?_eq_getElem h]; rfl
 unfold letLen
 rw [hg]
 have hd := List.drop_eq_getElem_cons h
 by_cases hp : plainB s[i] = true
 ·rw [if_pos hp, hd, allN_cons, if_pos hp]
  exact ⟨fun h => (by cases h), fun _ => ⟨by omega, by omega, rfl⟩⟩
 ·rw [if_neg hp, hd, allN_cons, if_neg hp]
  by_cases h2 : i + 2 ≤ s.length
  ·rw [any_two h2]
   have hd2 := List.drop_eq_getElem_cons (show i + 1 < s.length by omega)
   rw [hd2]
   cases ht : twoB s[i] s[i + 1]
   ·rw [if_neg (by decide)]
    refine ⟨fun _ => ?_, fun h => absurd rfl h⟩
    show (twoB s[i] s[i + 1] && _) = false
    rw [ht]; rfl
   ·rw [if_pos rfl]
    refine ⟨fun h => absurd h (by decide), fun _ => ⟨h2, by omega, ?_⟩⟩
    show (twoB s[i] s[i + 1] && _) = _
    rw [ht, Bool.true_and]
  ·rw [any_short h2, List.drop_eq_nil_of_le (show s.length ≤ i + 1 by omega)]
   simp
set_option maxRecDepth 100000 in
set_option maxHeartbeats 4000000 in
theorem plain_at (c : UInt8) (w : World) : Calls Tryz.prog 179 #[.int .u8 (c.toNat : Int)] w fun e w' => e = .returned (.bool (plainB c)) ∧ w = w' := by
 obtain ⟨n, hn⟩ : ∃ n, n = c.toNat := ⟨_, rfl⟩
 have hp : plainB c = ((decide (97 ≤ n) && decide (n ≤ 122)) || (decide (48 ≤ n) && decide (n ≤ 57)) || decide (n = 45) || decide (n = 95)) := by rw [hn]; rfl
 rw [← hn, hp]
 clear hn hp
 obtain ⟨b, hb⟩ : ∃ b, b = ((decide (97 ≤ n) && decide (n ≤ 122)) || (decide (48 ≤ n) && decide (n ≤ 57)) || decide (n = 45) || decide (n = 95)) := ⟨_, rfl⟩
 rw [← hb]
 have Hb := hid hb
 clear hb
 go_enter Tryz.func179, Tryz.ntmps179
 by_cases h1 : 97 ≤ n ∧ n ≤ 122
 ·have hb := hid (show b = true by rw [Hb.out]; simp only [Bool.or_eq_true, Bool.and_eq_true, decide_eq_true_eq]; omega)
  have g1 : (97 : Int) ≤ (n : Int) := by omega
  have g2 : (n : Int) ≤ 122 := by omega
  clear h1
  go_wp2
  go_ret
  exact ⟨by rw [hb.out]; rfl, rfl⟩
 by_cases h2 : 48 ≤ n ∧ n ≤ 57
 ·have hb := hid (show b = true by rw [Hb.out]; simp only [Bool.or_eq_true, Bool.and_eq_true, decide_eq_true_eq]; omega)
  have g1 : ¬ ((97 : Int) ≤ (n : Int)) := by omega
  have g3 : (48 : Int) ≤ (n : Int) := by omega
  have g4 : (n : Int) ≤ 57 := by omega
  clear h1 h2
  go_wp2
  go_ret
  exact ⟨by rw [hb.out]; rfl, rfl⟩
 have hx : ¬ ((97 : Int) ≤ (n : Int)) ∨ ((97 : Int) ≤ (n : Int) ∧ ¬ ((n : Int) ≤ 122)) := by omega
 have hy : ¬ ((48 : Int) ≤ (n : Int)) ∨ ((48 : Int) ≤ (n : Int) ∧ ¬ ((n : Int) ≤ 57)) := by omega
 by_cases h3 : n = 45
 ·subst h3
  have hb := hid (show b = true by rw [Hb.out]; rfl)
  clear hx hy h1 h2
  go_wp2
  go_ret
  exact ⟨by rw [hb.out]; rfl, rfl⟩
 by_cases h4 : n = 95
 ·subst h4
  have hb := hid (show b = true by rw [Hb.out]; rfl)
  clear hx hy h1 h2
  go_wp2
  go_ret
  exact ⟨by rw [hb.out]; rfl, rfl⟩
 have hb := hid (show b = false by rw [Hb.out, Bool.eq_false_iff]; simp only [ne_eq, Bool.or_eq_true, Bool.and_eq_true, decide_eq_true_eq]; omega)
 have g5 : ((n : Int) == 45) = false := beq_eq_false_iff_ne.2 (by omega)
 have g6 : ((n : Int) == 95) = false := beq_eq_false_iff_ne.2 (by omega)
 clear h1 h2 h3 h4
 rcases hx with hx | ⟨hx1, hx2⟩ <;> rcases hy with hy | ⟨hy1, hy2⟩
 all_goals (go_wp2; go_ret; exact ⟨by rw [hb.out]; rfl, rfl⟩)
set_option maxRecDepth 100000 in
theorem letters_at (w : World) : Calls Tryz.prog 180 #[] w fun e w' => ∃ A, e = .returned (.slice A 4 4) ∧ SlR Rep.str w' (· < w'.heap.size) A 4 4 lettersL ∧ Ext w w' := by
 go_enter Tryz.func180, Tryz.ntmps180
 go_wp2
 go_ret
 refine ⟨_, rfl, ⟨rfl, Nat.le_refl _, by decide, _, rows_strs lettersL, .inr ⟨w.heap.size, 0, rfl, by simp, fun j v hv => ?_⟩⟩, (Below.refl _ _).alloc (Nat.le_refl _) _⟩
 rw [cell_of_row _ _ _ _ _ _ (heap_alloc_last w _), ← Array.getElem?_toList, Nat.zero_add]
 exact hv
set_option maxRecDepth 100000 in
set_option maxHeartbeats 4000000 in
theorem begins_at (s : List UInt8) (i : Nat) (t : List UInt8) (hi : i ≤ s.length) (hs : s.length ≤ 1000000000) (ht : t.length ≤ 1000000000) (w : World) :
  Calls Tryz.prog 181 #[.string (str s), .int .i64 (i : Int), .string (str t)] w fun e w' => e = .returned (.bool (beg s i t)) ∧ w = w' := by
 have hl1 := fun ty w => len_str s ty w
 have hl2 := fun ty w => len_str t ty w
 go_enter Tryz.func181, Tryz.ntmps181
 by_cases h : i + t.length ≤ s.length
 ·have hp := fun w => str_part s i (i + t.length) (by omega) h w
  rw [show ((i + t.length : Nat) : Int) = (i : Int) + (t.length : Int) by omega] at hp
  have hb := hid (show beg s i t = ((s.take (i + t.length)).drop i == t) by unfold beg; rw [decide_eq_true h, Bool.true_and])
  obtain ⟨X, hX⟩ : ∃ X, X = (s.take (i + t.length)).drop i := ⟨_, rfl⟩
  rw [← hX] at hp hb
  obtain ⟨m, hm⟩ : ∃ m, m = t.length := ⟨_, rfl⟩
  rw [← hm] at h ht hl2 hp
  obtain ⟨n, hn⟩ : ∃ n, n = s.length := ⟨_, rfl⟩
  rw [← hn] at h hi hs hl1
  have g1 : (m : Int) ≤ (n : Int) - (i : Int) := by omega
  have e1 := str_toList X
  have e2 := str_toList t
  clear hX hm hn
  go_wp2
  go_ret
  exact ⟨by rw [hb.out]; rfl, rfl⟩
 ·have hb := hid (show beg s i t = false by unfold beg; rw [decide_eq_false h, Bool.false_and])
  have g1 : ¬ ((t.length : Int) ≤ (s.length : Int) - (i : Int)) := by omega
  go_wp2
  go_ret
  exact ⟨by rw [hb.out]; rfl, rfl⟩
set_option maxRecDepth 100000 in
set_option maxHeartbeats 4000000 in
theorem refLetter_at (s : List UInt8) (i : Nat) (hi : i < s.length) (hs : s.length ≤ 1000000000) (w : World) :
  Calls Tryz.prog 139 #[.string (str s), .int .i64 (i : Int)] w fun e w' => e = .returned (.int .i64 (letLen s i : Int)) ∧ Ext w w' := by
 have hix := fun w => str_index s i hi 9 w Tryz.underlying9
 have hg : (s[i]?).getD 0 = s[i] := by rw [List.getElem?_eq_getElem hi]; rfl
 have Hl := hid (show letLen s i = if plainB s[i] then 1 else if lettersL.any (beg s i) then 2 else 0 by unfold letLen; rw [hg])
 clear hg
 generalize s[i] = c at hix Hl
 go_enter Tryz.func139, Tryz.ntmps139
 go_wp2_with fail
 refine (plain_at c w).mono ?_
 rintro e w' ⟨rfl, rfl⟩
 cases hp : plainB c
 rotate_left
 ·have hb := hid (show letLen s i = 1 by rw [Hl.out, hp]; rfl)
  clear hix
  go_wp2
  go_ret
  exact ⟨by rw [hb.out]; rfl, Below.refl _ _⟩
 have Hb := hid (show letLen s i = if lettersL.any (beg s i) then 2 else 0 by rw [Hl.out, hp]; rfl)
 clear hix hp Hl
 go_wp2_with fail
 refine (letters_at w).mono ?_
 rintro e w1 ⟨A, rfl, hS, hE⟩
 have HS := hid hS; have HE := hid hE
 clear hS hE
 go_wp2_with fail
 go_loopw [6] (fun j wr => ∃ k : Nat, k ≤ 4 ∧ j = .int .i64 (k : Int) ∧ wr = w1 ∧ Hid ((lettersL.take k).any (beg s i) = false)) (fun j _ => 4 - (intOf j).toNat)
 case atStart => exact ⟨0, by omega, rfl, by trivial, (rfl : (lettersL.take 0).any (beg s i) = false)⟩
 case round =>
  obtain ⟨k, hk, rfl, rfl, HN⟩ := hrel
  by_cases hlt : k < 4
  ·obtain ⟨b, o, rfl, -, f0⟩ := strs_at HS.out k hlt
   have htl : (lettersL[k]'hlt).length = 2 := by
    have : ∀ t ∈ lettersL, t.length = 2 := by decide
    exact this _ (List.getElem_mem _)
   have Htk := hid (show (lettersL.take (k + 1)).any (beg s i) = beg s i (lettersL[k]'hlt) by
    rw [List.take_succ_eq_append_getElem hlt, List.any_append, HN.out]; simp)
   have Hmem := hid (List.getElem_mem (l := lettersL) hlt)
   generalize lettersL[k]'hlt = t at f0 htl Htk Hmem
   have hlt' : (k : Int) < 4 := by omega
   have hk00 : ¬ ((k : Int) < 0) := by omega
   have hk0 : (0 : Int) ≤ (k : Int) := by omega
   go_wp2_with fail
   refine (begins_at s i t (by omega) hs (by omega) _).mono ?_
   rintro e w' ⟨rfl, rfl⟩
   clear f0
   cases hbt : beg s i t
   ·have hn := hid (Htk.out.trans hbt)
    go_wp2_with fail
    go_roundw
    case rel => exact ⟨k + 1, by omega, by go_num, trivial, hn⟩
    case measure => simp [intOf]; omega
   ·have hb := hid (show letLen s i = 2 by
     rw [Hb.out, if_pos (List.any_eq_true.2 ⟨t, Hmem.out, hbt⟩)])
    go_wp2
    go_ret
    exact ⟨by rw [hb.out]; rfl, HE.out⟩
  ·obtain rfl : k = 4 := by omega
   have hb := hid (show letLen s i = 0 by rw [Hb.out, show lettersL.any (beg s i) = false from HN.out]; rfl)
   go_wp2
   go_ret
   exact ⟨by rw [hb.out]; rfl, HE.out⟩
theorem badHead_get {s : List UInt8} (h : 0 < s.length) : badHead s = badB s[0] := by
 cases s with
 | nil => exact absurd h (Nat.lt_irrefl _)
 | cons a l => rfl
set_option maxRecDepth 100000 in
set_option maxHeartbeats 4000000 in
theorem refMayN_at (s : List UInt8) (w : World) : Calls Tryz.prog 101 #[.string (str s)] w fun e w' => e = .returned (.bool (mayN s)) ∧ Ext w w' := by
 have hl := fun ty w => len_str s ty w
 by_cases h0 : s.length = 0
 ·have hb := hid (show mayN s = false by unfold mayN; simp [h0])
  have h0I : (s.length : Int) < 1 := by omega
  go_enter Tryz.func101, Tryz.ntmps101
  go_wp2
  go_ret
  exact ⟨by rw [hb.out]; rfl, Below.refl _ _⟩
 have h0I : ¬ ((s.length : Int) < 1) := by omega
 by_cases h24 : s.length ≤ 24
 rotate_left
 ·have hb := hid (show mayN s = false by unfold mayN; simp [h24])
  have h1I : (24 : Int) < (s.length : Int) := by omega
  go_enter Tryz.func101, Tryz.ntmps101
  go_wp2
  go_ret
  exact ⟨by rw [hb.out]; rfl, Below.refl _ _⟩
 have h1I : ¬ ((24 : Int) < (s.length : Int)) := by omega
 have hpos : 0 < s.length := by omega
 have hix := fun w => str_index s 0 hpos 9 w Tryz.underlying9
 have Hm := hid (mayN_left (s := s) (by omega) h24)
 have Hm2 := hid (show mayN s = (!badB s[0] && allN s) by rw [Hm.out]; unfold leftN; rw [if_pos rfl, badHead_get hpos])
 have Hbb := hid (show badB s[0] = ((decide (48 ≤ s[0].toNat) && decide (s[0].toNat ≤ 57)) || decide (s[0].toNat = 45)) from rfl)
 have hu := (s[0]).toNat_lt
 generalize badB s[0] = bb at Hm2 Hbb
 obtain ⟨c, hc⟩ : ∃ c, c = s[0].toNat := ⟨_, rfl⟩
 rw [← hc] at hix Hbb hu
 rw [show ((0 : Nat) : Int) = 0 from rfl] at hix
 clear hc h0 Hm
 by_cases hbad : (48 ≤ c ∧ c ≤ 57) ∨ c = 45
 ·have hb := hid (show mayN s = false by
   have : bb = true := by rw [Hbb.out]; simp only [Bool.or_eq_true, Bool.and_eq_true, decide_eq_true_eq]; exact hbad
   rw [Hm2.out, this]; rfl)
  clear Hbb Hm2
  rcases hbad with ⟨h1, h2⟩ | rfl
  ·have g1 : (48 : Int) ≤ (c : Int) := by omega
   have g2 : (c : Int) ≤ 57 := by omega
   go_enter Tryz.func101, Tryz.ntmps101
   go_wp2
   go_ret
   exact ⟨by rw [hb.out]; rfl, Below.refl _ _⟩
  ·go_enter Tryz.func101, Tryz.ntmps101
   go_wp2
   go_ret
   exact ⟨by rw [hb.out]; rfl, Below.refl _ _⟩
 have Hall := hid (show mayN s = allN (s.drop 0) by
  have : bb = false := by rw [Hbb.out, Bool.eq_false_iff]; simp only [ne_eq, Bool.or_eq_true, Bool.and_eq_true, decide_eq_true_eq]; exact hbad
  rw [Hm2.out, this]; rfl)
 have g5 : ((c : Int) == 45) = false := beq_eq_false_iff_ne.2 (by omega)
 have hx : ¬ ((48 : Int) ≤ (c : Int)) ∨ ((48 : Int) ≤ (c : Int) ∧ ¬ ((c : Int) ≤ 57)) := by omega
 clear hbad Hbb Hm2
 go_enter Tryz.func101, Tryz.ntmps101
 have key : ∀ (wr : World) (k : Nat), True := fun _ _ => trivial
 rcases hx with hx | ⟨hx1, hx2⟩
 all_goals
  go_wp2_with fail
  go_loopw [3] (fun j wr => ∃ k : Nat, k ≤ s.length ∧ j = .int .i64 (k : Int) ∧ Hid (Ext w wr) ∧ Hid (mayN s = allN (s.drop k))) (fun j _ => s.length - (intOf j).toNat)
  case atStart => exact ⟨0, by omega, rfl, Below.refl _ _, Hall⟩
  case round =>
   obtain ⟨k, hk, rfl, HE, HA⟩ := hrel
   by_cases hlt : k < s.length
   ·have hlt' : (k : Int) < (s.length : Int) := by omega
    obtain ⟨hz, hnz⟩ := letLen_step hlt
    have Hz := hid hz; have Hnz := hid hnz
    clear hz hnz hix
    go_wp2_with fail
    refine (refLetter_at s k hlt (by omega) wr).mono ?_
    rintro e w2 ⟨rfl, hE2⟩
    have HE2 := hid (HE.out.trans (hE2.mono HE.out.size))
    clear hE2
    by_cases hq : letLen s k = 0
    ·have hb := hid (show mayN s = false by rw [HA.out]; exact Hz.out hq)
     rw [hq]
     go_wp2
     go_ret
     exact ⟨by rw [hb.out]; rfl, HE2.out⟩
    ·obtain ⟨q1, q2, q3⟩ := Hnz.out hq
     have hb := hid (HA.out.trans q3)
     have hq0 : ((letLen s k : Int) == 0) = false := beq_eq_false_iff_ne.2 (by omega)
     generalize letLen s k = d at hq hq0 q1 q2 hb
     clear q3
     go_wp2_with fail
     go_roundw
     case rel => exact ⟨k + d, q1, by go_num, HE2, hb⟩
     case measure => simp [intOf]; omega
   ·obtain rfl : k = s.length := by omega
    have hlt' : ¬ ((s.length : Int) < (s.length : Int)) := by omega
    have hb := hid (show mayN s = true by rw [HA.out, List.drop_eq_nil_of_le (Nat.le_refl _)]; rfl)
    go_wp2
    go_ret
    exact ⟨by rw [hb.out]; rfl, HE.out⟩
end Go.Proofs.YtakebdeldndaaaaGreatDoor
/- Tags: a key and a value. -/
namespace Go.Proofs.YtakebdeldndaaaaGreatDoor
open Go Go.RowKit
set_option linter.unusedSimpArgs false
set_option linter.unusedVariables false
def partsT (s : List UInt8) : List UInt8 × List UInt8 × Bool :=
 match s.findIdx? (· == 58) with
 | none => ([], [], false)
 | some i => if mayN (s.take i) && mayN (s.drop (i + 1)) then (s.take i, s.drop (i + 1), true) else ([], [], false)
def tagN (s : List UInt8) : Bool := (partsT s).2.2
theorem find_some {s : List UInt8} {k : Nat} (hk : k < s.length) (he : s[k] = 58) (hno : ∀ j (hj : j < k), (s[j]'(by omega)) ≠ 58) : s.findIdx? (· == 58) = some k := by
 rw [List.findIdx?_eq_some_iff_getElem]
 exact ⟨hk, by simpa using he, fun j hj => by simpa using hno j hj⟩
theorem find_none {s : List UInt8} (hno : ∀ j (hj : j < s.length), s[j] ≠ 58) : s.findIdx? (· == 58) = none := by
 rw [List.findIdx?_eq_none_iff]
 intro p hp
 obtain ⟨j, hj, rfl⟩ := List.getElem_of_mem hp
 simpa using hno j hj
theorem mayN_nil : mayN [] = false := rfl
def cutT (s : List UInt8) : List UInt8 × List UInt8 × Bool :=
 match s.findIdx? (· == 58) with
 | none => (s, [], false)
 | some i => (s.take i, s.drop (i + 1), true)
theorem parts_cut (s : List UInt8) : partsT s = if mayN (cutT s).1 && mayN (cutT s).2.1 then ((cutT s).1, (cutT s).2.1, true) else ([], [], false) := by
 unfold partsT cutT
 cases s.findIdx? (· == 58) with
 | none => simp [mayN_nil]
 | some i => rfl
theorem index_find : ∀ s : List UInt8, Lib.indexByte s 58 = match s.findIdx? (· == 58) with | none => -1 | some k => (k : Int)
 | [] => rfl
 | c :: s => by
  have ih := index_find s
  unfold Lib.indexByte
  rw [List.findIdx?_cons]
  cases hc : (c == 58)
  ·simp only [Bool.false_eq_true, if_false]
   rw [ih]
   cases s.findIdx? (· == 58) with
   | none => rfl
   | some k =>
    simp only [Option.map_some]
    rw [if_neg (by simp only [beq_iff_eq]; omega)]
    rfl
  ·rfl
theorem index_none {s : List UInt8} (h : s.findIdx? (· == 58) = none) : Lib.indexByte s 58 = -1 := by rw [index_find, h]
theorem index_some {s : List UInt8} {k : Nat} (h : s.findIdx? (· == 58) = some k) : Lib.indexByte s 58 = (k : Int) := by rw [index_find, h]
set_option maxRecDepth 100000 in
set_option maxHeartbeats 4000000 in
theorem refParts_at (s : List UInt8) (w : World) (hs : s.length ≤ 9223372036854775807) : Calls Tryz.prog 140 #[.string (str s)] w fun e w' => e = .returned (.tuple #[.string (str (partsT s).1), .string (str (partsT s).2.1), .bool (partsT s).2.2]) ∧ Ext w w' := by
 have hl := fun ty w => len_str s ty w
 go_enter Tryz.func140, Tryz.ntmps140
 go_wp2_with fail
 go_loopw [5] (fun i wr => ∃ k : Nat, k ≤ s.length ∧ i = .int .i64 (k : Int) ∧ wr = w ∧ Hid (∀ j (hj : j < k) (h : j < s.length), s[j] ≠ 58)) (fun i _ => s.length - (intOf i).toNat)
 case atStart => exact ⟨0, by omega, rfl, rfl, fun j hj => by omega⟩
 case round =>
  obtain ⟨k, hk, rfl, rfl, HN⟩ := hrel
  by_cases hlt : k < s.length
  ·have hlt' : (k : Int) < (s.length : Int) := by omega
   have hix := fun w => str_index s k hlt 9 w Tryz.underlying9
   by_cases hc : s[k] = 58
   ·have Hf := hid (find_some hlt hc fun j hj => HN.out j hj (by omega))
    rw [hc] at hix
    have hu := fun w => str_upto s k (by omega) w
    have hf := fun w => str_from s (k + 1) (by omega) w
    rw [show ((k + 1 : Nat) : Int) = (k : Int) + 1 by omega] at hf
    have Hp := hid (show partsT s = if mayN (s.take k) && mayN (s.drop (k + 1)) then (s.take k, s.drop (k + 1), true) else ([], [], false) by unfold partsT; rw [Hf.out])
    generalize s.take k = X at hu Hp
    generalize s.drop (k + 1) = Y at hf Hp
    have h58 : ((58 : UInt8).toNat : Int) = 58 := rfl
    rw [h58] at hix
    clear hc
    go_wp2_with fail
    refine (refMayN_at X _).mono ?_
    rintro e w1 ⟨rfl, hE1⟩
    have HE1 := hid hE1
    clear hE1
    go_wp2_with fail
    refine (refMayN_at Y _).mono ?_
    rintro e w2 ⟨rfl, hE2⟩
    have HE2 := hid (HE1.out.trans (hE2.mono HE1.out.size))
    clear hE2
    cases h1 : mayN X
    ·have hb := hid (show partsT s = ([], [], false) by rw [Hp.out, h1]; rfl)
     go_wp2
     go_ret3
     exact ⟨by rw [hb.out]; rfl, HE2.out⟩
    ·cases h2 : mayN Y
     ·have hb := hid (show partsT s = ([], [], false) by rw [Hp.out, h1, h2]; rfl)
      go_wp2
      go_ret3
      exact ⟨by rw [hb.out]; rfl, HE2.out⟩
     ·have hb := hid (show partsT s = (X, Y, true) by rw [Hp.out, h1, h2]; rfl)
      go_wp2_with fail
      apply wp_drawn [isV _, isV _, isV _, isV _, isV _, isV _, isV _, isV _, isV _, isV _] (by kernel_rfl)
      ·kernel_rfl
      ·refine ⟨?r8s0, ?r8s1, ?r8s2, ?r8s3, ?r8s4, ?r8s5, ?r8s6, ?r8s7, ?r8s8, ?r8s9, trivial⟩
       case r8s0 | r8s1 | r8s2 | r8s3 | r8s4 | r8s5 =>
        intro v W hE hd; simp only [Region.wanted, ↓reduceIte]; (try simp [deps, waitsOn, Region.binds, knowing, isV, ownsV, anyV] at hd); simp only [putAll, List.take_succ_cons, List.take_zero, List.drop_succ_cons, List.drop_zero, Act.put, List.setIfInBounds_toArray, List.set_cons_zero, List.set_cons_succ, Nat.zero_add, Nat.reduceAdd]; go_simp; exact ⟨Below.refl _ _, rfl⟩
       case r8s6 =>
        intro v W hE hd; simp only [Region.wanted, ↓reduceIte]; (try simp [deps, waitsOn, Region.binds, knowing, isV, ownsV, anyV] at hd); simp only [putAll, List.take_succ_cons, List.take_zero, List.drop_succ_cons, List.drop_zero, Act.put, List.setIfInBounds_toArray, List.set_cons_zero, List.set_cons_succ, Nat.zero_add, Nat.reduceAdd]
        have hw : IntKind.i64.wrap ((k : Int) + 1) = (k : Int) + 1 := by rw [IntKind.wrap_i64]; omega
        go_simp
        exact ⟨Below.refl _ _, rfl⟩
       case r8s7 | r8s8 | r8s9 =>
        intro v W hE hd; simp only [Region.wanted, ↓reduceIte]; (try simp [deps, waitsOn, Region.binds, knowing, isV, ownsV, anyV] at hd); simp only [putAll, List.take_succ_cons, List.take_zero, List.drop_succ_cons, List.drop_zero, Act.put, List.setIfInBounds_toArray, List.set_cons_zero, List.set_cons_succ, Nat.zero_add, Nat.reduceAdd]; go_simp; exact ⟨Below.refl _ _, rfl⟩
      ·rintro v W8 hE ⟨-, -, -, -, -, -, -, e7, e8, e9, -⟩
       have e7 := (show v 7 = _ from e7)
       have e8 := (show v 8 = _ from e8)
       have e9 := (show v 9 = _ from e9)
       simp only [putAll, List.take_succ_cons, List.take_zero, List.drop_succ_cons, List.drop_zero, Act.put, List.setIfInBounds_toArray, List.set_cons_zero, List.set_cons_succ, Nat.zero_add, Nat.reduceAdd]
       rw [e7, e8, e9]
       clear e7 e8 e9
       go_wp2
       go_ret3
       exact ⟨by rw [hb.out]; rfl, HE2.out.trans (hE.mono HE2.out.size)⟩
   ·have hn := hid (show ∀ j (hj : j < k + 1) (h : j < s.length), s[j] ≠ 58 from fun j hj h => by
     rcases Nat.lt_succ_iff_lt_or_eq.1 hj with h' | rfl
     ·exact HN.out j h' h
     ·exact hc)
    have hne : (((s[k]).toNat : Int) == 58) = false := beq_eq_false_iff_ne.2 (fun e => hc (UInt8.toNat_inj.1 (by have : (58 : UInt8).toNat = 58 := rfl; omega)))
    generalize s[k] = c at hix hne
    clear hc
    go_wp2_with fail
    go_roundw
    case rel => exact ⟨k + 1, by omega, by go_num, by trivial, hn⟩
    case measure => simp [intOf]; omega
  ·obtain rfl : k = s.length := by omega
   have hlt' : ¬ ((s.length : Int) < (s.length : Int)) := by omega
   have hb := hid (show partsT s = ([], [], false) by unfold partsT; rw [find_none fun j hj => HN.out j hj hj])
   go_wp2
   go_ret3
   exact ⟨by rw [hb.out]; rfl, Below.refl _ _⟩
set_option maxRecDepth 100000 in
set_option maxHeartbeats 4000000 in
theorem lcut_at (s : List UInt8) (w : World) (hs : s.length ≤ 9223372036854775807) : Calls Tryz.prog 218 #[.string (str s), .string ⟨#[58]⟩] w fun e w' => e = .returned (.tuple #[.string (str (cutT s).1), .string (str (cutT s).2.1), .bool (cutT s).2.2]) ∧ Ext w w' := by
 have hix := fun w => Tryz.stringslite_Index_one (str s) 58 w
 have hd : (str s).data.toList = s := by simp [str]
 rw [hd] at hix
 go_enter Tryz.func218, Tryz.ntmps218
 go_wp2_with fail
 refine (hix w).mono ?_
 rintro e w' ⟨rfl, rfl⟩
 cases hf : s.findIdx? (· == 58) with
 | none =>
  rw [index_none hf]
  have hb := hid (show cutT s = (s, [], false) by unfold cutT; rw [hf])
  go_wp2
  go_ret3
  exact ⟨by rw [hb.out]; rfl, Below.refl _ _⟩
 | some k =>
  rw [index_some hf]
  have hk : k < s.length := (List.findIdx?_eq_some_iff_getElem.1 hf).1
  have hb := hid (show cutT s = (s.take k, s.drop (k + 1), true) by unfold cutT; rw [hf])
  have hu := fun w => str_upto s k (by omega) w
  have hfr := fun w => str_from s (k + 1) (by omega) w
  rw [show ((k + 1 : Nat) : Int) = (k : Int) + 1 by omega] at hfr
  generalize s.take k = X at hu hb
  generalize s.drop (k + 1) = Y at hfr hb
  have hk0 : (0 : Int) ≤ (k : Int) := by omega
  clear hf hix
  go_wp2_with fail
  apply wp_drawn [isV _, isV _, isV _, isV _, isV _, isV _, isV _, isV _, isV _, isV _, isV _, isV _] (by kernel_rfl)
  ·kernel_rfl
  ·refine ⟨?rc3s0, ?rc3s1, ?rc3s2, ?rc3s3, ?rc3s4, ?rc3s5, ?rc3s6, ?rc3s7, ?rc3s8, ?rc3s9, ?rc3s10, ?rc3s11, trivial⟩
   case rc3s0 | rc3s1 | rc3s2 | rc3s3 | rc3s4 | rc3s5 | rc3s6 | rc3s7 =>
    intro v W hE hd; simp only [Region.wanted, ↓reduceIte]; (try simp [deps, waitsOn, Region.binds, knowing, isV, ownsV, anyV] at hd); simp only [putAll, List.take_succ_cons, List.take_zero, List.drop_succ_cons, List.drop_zero, Act.put, List.setIfInBounds_toArray, List.set_cons_zero, List.set_cons_succ, Nat.zero_add, Nat.reduceAdd]; go_simp; exact ⟨Below.refl _ _, rfl⟩
   case rc3s8 =>
    intro v W hE hd; simp only [Region.wanted, ↓reduceIte]; (try simp [deps, waitsOn, Region.binds, knowing, isV, ownsV, anyV] at hd); simp only [putAll, List.take_succ_cons, List.take_zero, List.drop_succ_cons, List.drop_zero, Act.put, List.setIfInBounds_toArray, List.set_cons_zero, List.set_cons_succ, Nat.zero_add, Nat.reduceAdd]
    have hw : IntKind.i64.wrap ((k : Int) + 1) = (k : Int) + 1 := by rw [IntKind.wrap_i64]; omega
    go_simp
    exact ⟨Below.refl _ _, rfl⟩
   case rc3s9 | rc3s10 | rc3s11 =>
    intro v W hE hd; simp only [Region.wanted, ↓reduceIte]; (try simp [deps, waitsOn, Region.binds, knowing, isV, ownsV, anyV] at hd); simp only [putAll, List.take_succ_cons, List.take_zero, List.drop_succ_cons, List.drop_zero, Act.put, List.setIfInBounds_toArray, List.set_cons_zero, List.set_cons_succ, Nat.zero_add, Nat.reduceAdd]; go_simp; exact ⟨Below.refl _ _, rfl⟩
  ·rintro v W8 hE ⟨-, -, -, -, -, -, -, -, -, e9, e10, e11, -⟩
   have e9 := (show v 9 = _ from e9)
   have e10 := (show v 10 = _ from e10)
   have e11 := (show v 11 = _ from e11)
   simp only [putAll, List.take_succ_cons, List.take_zero, List.drop_succ_cons, List.drop_zero, Act.put, List.setIfInBounds_toArray, List.set_cons_zero, List.set_cons_succ, Nat.zero_add, Nat.reduceAdd]
   rw [e9, e10, e11]
   clear e9 e10 e11
   go_wp2
   go_ret3
   exact ⟨by rw [hb.out]; rfl, hE⟩
set_option maxRecDepth 100000 in
theorem cut_at (s : List UInt8) (w : World) (hs : s.length ≤ 9223372036854775807) : Calls Tryz.prog 213 #[.string (str s), .string ⟨#[58]⟩] w fun e w' => e = .returned (.tuple #[.string (str (cutT s).1), .string (str (cutT s).2.1), .bool (cutT s).2.2]) ∧ Ext w w' := by
 go_enter Tryz.func213, Tryz.ntmps213
 go_wp2_with fail
 refine (lcut_at s w hs).mono ?_
 rintro e w1 ⟨rfl, hE⟩
 have HE := hid hE
 clear hE
 go_wp2
 go_ret3
 exact ⟨rfl, HE.out⟩
set_option maxRecDepth 100000 in
set_option maxHeartbeats 4000000 in
theorem parts_at (s : List UInt8) (w : World) (hs : s.length ≤ 9223372036854775807) : Calls Tryz.prog 194 #[.string (str s)] w fun e w' => e = .returned (.tuple #[.string (str (partsT s).1), .string (str (partsT s).2.1), .bool (partsT s).2.2]) ∧ Ext w w' := by
 have hp := hid (parts_cut s)
 go_enter Tryz.func194, Tryz.ntmps194
 go_wp2_with fail
 refine (cut_at s w hs).mono ?_
 rintro e w1 ⟨rfl, hE⟩
 have HE := hid hE
 clear hE
 generalize (cutT s).1 = X at hp ⊢
 generalize (cutT s).2.1 = Y at hp ⊢
 go_wp2_with fail
 refine (mayN_at X w1).mono ?_
 rintro e w2 ⟨rfl, hE2⟩
 have HE2 := hid (HE.out.trans (hE2.mono HE.out.size))
 clear hE2
 cases h1 : mayN X
 ·have hb := hid (show partsT s = ([], [], false) by rw [hp.out, h1]; rfl)
  go_wp2
  go_ret3
  exact ⟨by rw [hb.out]; rfl, HE2.out⟩
 ·go_wp2_with fail
  refine (mayN_at Y w2).mono ?_
  rintro e w3 ⟨rfl, hE3⟩
  have HE3 := hid (HE2.out.trans (hE3.mono HE2.out.size))
  clear hE3
  cases h2 : mayN Y
  ·have hb := hid (show partsT s = ([], [], false) by rw [hp.out, h1, h2]; rfl)
   go_wp2
   go_ret3
   exact ⟨by rw [hb.out]; rfl, HE3.out⟩
  ·have hb := hid (show partsT s = (X, Y, true) by rw [hp.out, h1, h2]; rfl)
   go_wp2
   go_ret3
   exact ⟨by rw [hb.out]; rfl, HE3.out⟩
set_option maxRecDepth 100000 in
theorem mayTag_at (s : List UInt8) (w : World) (hs : s.length ≤ 9223372036854775807) : Calls Tryz.prog 160 #[.string (str s)] w fun e w' => e = .returned (.bool (tagN s)) ∧ Ext w w' := by
 have ht := hid (show tagN s = (partsT s).2.2 from rfl)
 go_enter Tryz.func160, Tryz.ntmps160
 go_wp2_with fail
 refine (parts_at s w hs).mono ?_
 rintro e w1 ⟨rfl, hE⟩
 have HE := hid hE
 clear hE
 go_wp2
 go_ret
 exact ⟨by rw [ht.out]; rfl, HE.out⟩
end Go.Proofs.YtakebdeldndaaaaGreatDoor
