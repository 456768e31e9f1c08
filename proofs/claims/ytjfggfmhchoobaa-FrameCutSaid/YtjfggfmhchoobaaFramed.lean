/- The walk of the laws' framed, and of the law FrameJoins. -/
import Derived.Test.YtjfggfmhchoobaaFrame7
import Derived.Test.YtjfggfmhchoobaaFrameSame
import Derived.Test.YtjfggfmhchoobaaOpens
import Derived.Deep.DeepCutAuto
namespace Go.Proofs.Ytjfggfmhchoobaa
open Go Go.RowKit
set_option linter.unusedSimpArgs false
set_option linter.unusedVariables false

/-- The rows that are framed. -/
def firsts (k : Nat) (xs : List (List UInt8)) : List (List UInt8) := (xs.take k).map (·.take 100)
theorem firsts_zero (xs : List (List UInt8)) : firsts 0 xs = [] := rfl
theorem firsts_succ (k : Nat) (xs : List (List UInt8)) (hk : k < xs.length) : firsts (k + 1) xs = firsts k xs ++ [(xs[k]'hk).take 100] := by
  unfold firsts
  rw [List.take_add_one, List.getElem?_eq_getElem hk, List.map_append]
  rfl
theorem firsts_end (k m : Nat) (xs : List (List UInt8)) (h : xs.length ≤ k ∨ k = m) (hm : k ≤ m) : firsts k xs = firsts m xs := by
  unfold firsts
  rcases h with h | rfl
  · rw [List.take_of_length_le h, List.take_of_length_le (by omega)]
  · rfl
theorem frms_snoc (l : List (List UInt8)) (x : List UInt8) : Frm.frms (l ++ [x]) = Frm.frms l ++ Frm.frm x := by
  unfold Frm.frms; rw [List.flatMap_append]; simp
theorem firsts_le (k : Nat) (xs : List (List UInt8)) : ∀ x ∈ firsts k xs, x.length ≤ 100 := by
  intro x hx
  unfold firsts at hx
  obtain ⟨y, -, rfl⟩ := List.mem_map.1 hx
  simp; omega
theorem firsts_length (k : Nat) (xs : List (List UInt8)) : (firsts k xs).length = min k xs.length := by simp [firsts]
theorem total_few (l : List (List UInt8)) (h : ∀ x ∈ l, x.length ≤ 100) : Frm.total l ≤ 108 * l.length := by
  induction l with
  | nil => simp [Frm.total]
  | cons x l ih =>
    have h1 := h x (by simp)
    have h2 := ih fun y hy => h y (by simp [hy])
    have : Frm.total (x :: l) = 8 + x.length + Frm.total l := by unfold Frm.total; simp
    rw [this, List.length_cons]; omega
theorem frms_few (k : Nat) (xs : List (List UInt8)) : (Frm.frms (firsts k xs)).length ≤ 108 * k := by
  rw [Frm.frms_length]
  have := total_few _ (firsts_le k xs)
  rw [firsts_length] at this
  have : 108 * min k xs.length ≤ 108 * k := Nat.mul_le_mul_left _ (Nat.min_le_left _ _)
  omega

set_option maxRecDepth 100000 in
set_option maxHeartbeats 4000000 in
theorem framed_at (tb : Nat) (A : Option Addr) (n c : Nat) (xs : List (List UInt8)) (w : World) (ht : TabAt w tb) (h : SlR (Rep.slice Rep.u8) w (· < w.heap.size) A n c xs) :
    Calls Try.prog 33 #[.pointer (some ⟨tb, 0, none⟩), .slice A n c] w (fun e w' => ∃ v, e = .returned v ∧ OB w' w.heap.size v (Frm.frms (firsts 8 xs)) ∧ Below w.heap.size w w') := by
  have Hn := hid h.1
  have Hs := hid h; clear h
  have Ht := hid ht; clear ht
  go_enter Try.func33, Try.ntmps33
  go_wp2_with fail
  go_loopw [5, 6] (fun out i wr => ∃ k : Nat, k ≤ 8 ∧ k ≤ n ∧ i = .int .i64 k ∧ Hid (OB wr w.heap.size out (Frm.frms (firsts k xs))) ∧ Hid (Below w.heap.size w wr)) (fun _ i _ => 8 - (intOf i).toNat)
  case atStart =>
    exact ⟨0, by omega, by omega, rfl, OB_empty w _ (Nat.le_refl _), (Below.refl _ _).alloc (Nat.le_refl _) _⟩
  case round =>
    obtain ⟨k, hk8, hkn, rfl, Hob, HB⟩ := hrel
    by_cases hlt : k < n
    rotate_left
    · have hge : ¬ ((k : Int) < (n : Int)) := by omega
      have hfe := firsts_end k 8 xs (.inl (by have := Hn.out; omega)) hk8
      rw [hfe] at Hob
      clear hfe
      go_wp2
      go_ret
      exact ⟨_, rfl, Hob.out, HB.out⟩
    have hltI : (k : Int) < (n : Int) := by omega
    by_cases h8 : k < 8
    rotate_left
    · have hge : ¬ ((k : Int) < 8) := by omega
      have hfe := firsts_end k 8 xs (.inr (by omega)) hk8
      rw [hfe] at Hob
      clear hfe
      go_wp2
      go_ret
      exact ⟨_, rfl, Hob.out, HB.out⟩
    have h8I : (k : Int) < 8 := by omega
    have hk1 : k < xs.length := by have := Hn.out; omega
    obtain ⟨g, o, X, d, rfl, hc1, hd, hr1⟩ := Hs.out.getB k hk1
    have hsn := firsts_succ k xs hk1
    obtain ⟨x, hx⟩ : ∃ x, x = xs[k] := ⟨_, rfl⟩
    rw [← hx] at hc1 hr1 hsn hd
    have Hsn := hid hsn
    have H1 := hid (cell_below HB.out hc1)
    have R1 := hid ((hr1.below HB.out).take 100)
    obtain ⟨q, hq⟩ : ∃ q, q = x.length := ⟨_, rfl⟩
    obtain ⟨m, hm⟩ : ∃ m, m = min q 100 := ⟨_, rfl⟩
    rw [← hq] at H1 hd
    have Hm := hid (show m = (x.take 100).length by rw [hm, List.length_take, hq]; omega)
    have Hmq := hid hm
    have hm100 : m ≤ 100 := by omega
    clear hx hc1 hr1 hsn hq hm
    have hc2 := H1.out
    go_upto_if 27 with (fail)
    go_cut [7] (fun s wx => s = .slice X m d ∧ wr = wx)
    case first =>
      by_cases h : q ≤ 100
      · have e : m = q := by have := Hmq.out; omega
        go_wp2_with fail
        go_meet
        case rel => exact ⟨by rw [e], rfl⟩
      · have e : m = 100 := by have := Hmq.out; omega
        go_wp2_with fail
        go_meet
        case rel => exact ⟨by rw [e], rfl⟩
    case rest =>
      obtain ⟨rfl, rfl⟩ := hcut
      go_wp2_with fail
      have hcc := put_at tb X m d (x.take 100) wr Hm.out (by omega) (Ht.out.below HB.out) R1.out
      refine hcc.mono ?_; clear hcc
      rintro e w4 ⟨v4, rfl, hO4, hB4⟩
      have HB4 := hid (below_then HB.out HB.out.size hB4)
      have Hob4 := hid (Hob.out.below hB4)
      clear hB4
      obtain ⟨A4, c4, rfl, hc4, Hr4⟩ := hO4.readAt
      clear hO4
      have Hfl := hid (show m + 8 = (Frm.frm (x.take 100)).length by rw [Frm.frm_length, ← Hm.out])
      rw [← Hfl.out]
      have hlen := frms_few k xs
      have Hlen := hid hlen; clear hlen
      go_wp2_with (at_builtin; refine wpList_appB (w0 := w) rfl (.tmp 36) (.tmp 37) rfl w.heap.size u5 (Frm.frms (firsts k xs)) rfl Hob4 HB4 HB4.out.size A4 c4 (m + 8) (Frm.frm (x.take 100)) rfl Hfl Hr4 (by have := Hlen.out; omega) ?_; intro v5 w5 Hob5 Hbel5 _)
      go_roundw
      case rel =>
        refine ⟨k + 1, by omega, by omega, rfl, ?_, Hbel5⟩
        show OB _ _ _ _
        rw [Hsn.out, frms_snoc]
        exact Hob5.out
      case measure => simp [intOf]; omega
end Go.Proofs.Ytjfggfmhchoobaa
