/- Names: what the program says may be one. -/
import Derived.Test.YtpmmapcjohmniaaGreatNmMath
import Derived.Test.YtpmmapcjohmniaaGreatFound
import Derived.Lib.OthersKept
namespace Go.Proofs.YtpmmapcjohmniaaGreat
open Go Go.RowKit
set_option linter.unusedSimpArgs false
set_option linter.unusedVariables false

theorem letR_true {c : Int} (h : (97 ≤ c ∧ c ≤ 122) ∨ (48 ≤ c ∧ c ≤ 57) ∨ c = 45 ∨ c = 95 ∨ c = 233 ∨ c = 248 ∨ c = 223 ∨ c = 955) : letR c = true := by
  unfold letR
  simp only [Bool.or_eq_true, Bool.and_eq_true, decide_eq_true_eq]
  omega
theorem letR_false {c : Int} (h : ¬ ((97 ≤ c ∧ c ≤ 122) ∨ (48 ≤ c ∧ c ≤ 57) ∨ c = 45 ∨ c = 95 ∨ c = 233 ∨ c = 248 ∨ c = 223 ∨ c = 955)) : letR c = false := by
  unfold letR
  rw [Bool.eq_false_iff]
  simp only [ne_eq, Bool.or_eq_true, Bool.and_eq_true, decide_eq_true_eq]
  omega
set_option maxRecDepth 100000 in
set_option maxHeartbeats 4000000 in
theorem letter_at (c : Int) (w : World) : Calls Tryz.prog 58 #[.int .i32 c] w fun e w' => e = .returned (.bool (letR c)) ∧ w = w' := by
  obtain ⟨b, hb⟩ : ∃ b, b = letR c := ⟨_, rfl⟩
  rw [← hb]
  have hb' := hid hb
  clear hb
  go_enter Tryz.func58, Tryz.ntmps58
  go_wp2
  all_goals go_ret
  all_goals refine ⟨?_, rfl⟩
  all_goals rw [hb'.out]
  all_goals simp only [beq_iff_eq, beq_eq_false_iff_ne, ne_eq] at *
  all_goals first
    | (rw [letR_true (by omega)]; rfl)
    | (rw [letR_false (by omega)]; rfl)
set_option maxRecDepth 100000 in
set_option maxHeartbeats 4000000 in
theorem mayN_at (s : List UInt8) (w : World) : Calls Tryz.prog 34 #[.string (str s)] w fun e w' => e = .returned (.bool (mayN s)) ∧ Ext w w' := by
  have hsz := hid (str_size s)
  have hl := fun ty w => len_str s ty w
  by_cases h0 : s.length = 0
  · have hb := hid (show mayN s = false by unfold mayN; simp [h0])
    have h0I : (s.length : Int) = 0 := by omega
    go_enter Tryz.func34, Tryz.ntmps34
    go_wp2
    go_ret
    exact ⟨by rw [hb.out]; rfl, Below.refl _ _⟩
  by_cases h24 : s.length ≤ 24
  rotate_left
  · have hb := hid (show mayN s = false by unfold mayN; simp [h24])
    have h0I : ¬ ((s.length : Int) = 0) := by omega
    have h0b : ((s.length : Int) == 0) = false := beq_eq_false_iff_ne.2 h0I
    have h1I : (24 : Int) < (s.length : Int) := by omega
    go_enter Tryz.func34, Tryz.ntmps34
    go_wp2
    go_ret
    exact ⟨by rw [hb.out]; rfl, Below.refl _ _⟩
  have Hm := hid (mayN_left (s := s) (by omega) h24)
  have h0I : ¬ ((s.length : Int) = 0) := by omega
  have h1I : ¬ ((24 : Int) < (s.length : Int)) := by omega
  have h0b : ((s.length : Int) == 0) = false := beq_eq_false_iff_ne.2 h0I
  have H1 := hid (show 1 ≤ s.length by omega)
  clear h0 h24
  go_enter Tryz.func34, Tryz.ntmps34
  go_wp2_with fail
  go_loopw [] (fun wr => ∃ pos : Nat, pos ≤ s.length ∧ wr.heap[w.heap.size]? = some (.stringIter (str s) pos) ∧ Hid (Ext w wr) ∧ Hid (mayN s = leftN s pos)) (fun wr => s.length - wr.iterPos w.heap.size)
  case atStart => exact ⟨0, by omega, World.iter_heap w (str s) 0, (Below.refl _ _).alloc (Nat.le_refl _) _, Hm⟩
  case round =>
    obtain ⟨pos, hps, hit, HE, HL⟩ := hrel
    by_cases hp : pos < s.length
    · obtain ⟨c, wd, hd⟩ : ∃ c wd, Utf8.decode (str s) pos = (c, wd) := ⟨_, _, rfl⟩
      have hnx : ∀ ty, (Instr.next (.pointer (some ⟨w.heap.size, 0, none⟩)) true ty).run Tryz.prog wr = .ok (.tuple #[.bool true, .int .i64 pos, .int .i32 c]) (wr.iterAt w.heap.size (str s) (pos + wd)) := fun ty => by
        have := Lib.run_next_any_at (P := Tryz.prog) wr w.heap.size (str s) pos ty hit (by rw [hsz.out]; exact hp)
        rw [hd] at this; exact this
      have hit2 := Lib.iterAt_heap wr w.heap.size (str s) pos (pos + wd) hit
      have HE2 := hid (Lib.below_iterAt HE.out (k := w.heap.size) (Nat.le_refl _) (str s) (pos + wd))
      obtain ⟨s1, s2⟩ := leftN_step hp hd
      have S1 := hid s1; have S2 := hid s2
      have Hit := hid hit
      clear s1 s2 hd hit
      generalize hw2 : wr.iterAt w.heap.size (str s) (pos + wd) = w2 at hnx hit2 HE2
      have Hw2 := hid hw2
      clear hw2
      go_wp2_with fail
      refine (letter_at c w2).mono ?_
      rintro e w' ⟨rfl, rfl⟩
      cases hlr : letR (c : Int)
      · have hb := hid (show mayN s = false by rw [HL.out, S1.out, hlr]; rfl)
        clear hnx
        go_wp2
        go_ret
        exact ⟨by rw [hb.out]; rfl, HE2.out⟩
      · have hS := S2.out hlr
        by_cases hq : pos = 0 ∧ (c : Int) ≤ 57
        · have hb := hid (show mayN s = false by rw [HL.out, S1.out, hlr, decide_eq_true hq.1, decide_eq_true hq.2]; rfl)
          have hq1 : (pos : Int) = 0 := by omega
          have hq2 := hq.2
          clear hnx hq
          go_wp2
          go_ret
          exact ⟨by rw [hb.out]; rfl, HE2.out⟩
        · have hb := hid (show mayN s = leftN s (pos + wd) by
            rw [HL.out, S1.out, hlr]
            have : (decide (pos = 0) && decide ((c : Int) ≤ 57)) = false := by
              rw [← Bool.decide_and]; exact decide_eq_false hq
            rw [this]; rfl)
          have hx : ¬ ((pos : Int) = 0) ∨ ((pos : Int) = 0 ∧ ¬ ((c : Int) ≤ 57)) := by omega
          have hmes : wr.iterPos w.heap.size = pos := by unfold World.iterPos; rw [Hit.out]
          have hmes2 : w2.iterPos w.heap.size = pos + wd := by unfold World.iterPos; rw [hit2]
          have Hmes := hid hmes; have Hmes2 := hid hmes2
          clear hnx hq hmes hmes2
          rcases hx with hx | ⟨hx1, hx2⟩
          · go_wp2_with fail
            go_roundw
            case rel => exact ⟨pos + wd, hS.2, hit2, HE2, hb⟩
            case measure => rw [Hmes.out, Hmes2.out]; omega
          · go_wp2_with fail
            go_roundw
            case rel => exact ⟨pos + wd, hS.2, hit2, HE2, hb⟩
            case measure => rw [Hmes.out, Hmes2.out]; omega
    · obtain rfl : pos = s.length := by omega
      have hnx : ∀ ty, (Instr.next (.pointer (some ⟨w.heap.size, 0, none⟩)) true ty).run Tryz.prog wr = .ok (.tuple #[.bool false]) wr := fun ty => Lib.run_next_end_at wr w.heap.size (str s) _ ty hit (by rw [hsz.out]; omega)
      have hb := hid (show mayN s = true by rw [HL.out, leftN_end s H1.out])
      clear hit
      go_wp2
      go_ret
      exact ⟨by rw [hb.out]; rfl, HE.out⟩
end Go.Proofs.YtpmmapcjohmniaaGreat
