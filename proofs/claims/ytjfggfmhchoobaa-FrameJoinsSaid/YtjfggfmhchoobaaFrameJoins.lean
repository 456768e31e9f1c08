/- The walk of the law FrameJoins. -/
import Derived.Test.YtjfggfmhchoobaaFramed
namespace Go.Proofs.Ytjfggfmhchoobaa
open Go Go.RowKit
set_option linter.unusedSimpArgs false
set_option linter.unusedVariables false

theorem frms_append (a b : List (List UInt8)) : Frm.frms (a ++ b) = Frm.frms a ++ Frm.frms b := by
  unfold Frm.frms; rw [List.flatMap_append]
theorem total_append (a b : List (List UInt8)) : Frm.total (a ++ b) = Frm.total a + Frm.total b := by
  unfold Frm.total; rw [List.map_append, List.sum_append]
theorem scan_frms_all (l : List (List UInt8)) (h : ∀ x ∈ l, x.length ≤ 100) : Frm.scan (Frm.frms l) = l := by
  have := Frm.scan_frms l [] (fun x hx => Nat.le_trans (h x hx) (by omega))
  rwa [List.append_nil, Frm.scan_nil, List.append_nil] at this
theorem run_min8 (n m : Nat) (hm : m = min 8 n) (ts : Array TypeId) (t : TypeId) (w : World) : (Builtin.min_ ts t #[.int .i64 (n : Int), .int .i64 8]).run Try.prog w = .ok (.int .i64 (m : Int)) w := by
  simp [Builtin.min_, Builtin.min2]
  repeat' split
  all_goals omega

set_option maxRecDepth 100000 in
set_option maxHeartbeats 4000000 in
theorem frameJoins_in (A1 : Option Addr) (n1 C1 : Nat) (a : List (List UInt8)) (A2 : Option Addr) (n2 C2 : Nat) (b : List (List UInt8)) (w : World) (i1 : SlR (Rep.slice Rep.u8) w (· < w.heap.size) A1 n1 C1 a) (i2 : SlR (Rep.slice Rep.u8) w (· < w.heap.size) A2 n2 C2 b) :
    Calls Try.prog 13 #[.slice A1 n1 C1, .slice A2 n2 C2] w fun e w' => e = .returned (.bool true) ∧ Below w.heap.size w w' := by
  have hz := zero_tab
  have Hi1 := hid i1; have Hi2 := hid i2; clear i1 i2
  obtain ⟨l1, hl1⟩ : ∃ l, l = firsts 8 a := ⟨_, rfl⟩
  obtain ⟨l2, hl2⟩ : ∃ l, l = firsts 8 b := ⟨_, rfl⟩
  have hk1 : l1.length = min 8 n1 := by rw [hl1, firsts_length, ← Hi1.out.1]
  have hk2 : l2.length = min 8 n2 := by rw [hl2, firsts_length, ← Hi2.out.1]
  have hf1 : (Frm.frms l1).length ≤ 108 * 8 := by rw [hl1]; exact frms_few 8 a
  have hf2 : (Frm.frms l2).length ≤ 108 * 8 := by rw [hl2]; exact frms_few 8 b
  have hsc : Frm.scan (Frm.frms l1 ++ Frm.frms l2) = l1 ++ l2 := by
    rw [← frms_append]
    refine scan_frms_all _ fun x hx => ?_
    rcases List.mem_append.1 hx with h | h
    · rw [hl1] at h; exact firsts_le 8 a x h
    · rw [hl2] at h; exact firsts_le 8 b x h
  have htt : Frm.total (l1 ++ l2) = (Frm.frms l1).length + (Frm.frms l2).length := by rw [total_append, Frm.frms_length, Frm.frms_length]
  have Hl1 := hid hl1; have Hl2 := hid hl2; have Hk1 := hid hk1; have Hk2 := hid hk2; have Hsc := hid hsc; have Htt := hid htt
  obtain ⟨F1, hF1⟩ : ∃ F, F = Frm.frms l1 := ⟨_, rfl⟩
  obtain ⟨F2, hF2⟩ : ∃ F, F = Frm.frms l2 := ⟨_, rfl⟩
  rw [← hF1] at hf1 Htt Hsc; rw [← hF2] at hf2 Htt Hsc
  obtain ⟨p1, hp1⟩ : ∃ p, p = F1.length := ⟨_, rfl⟩
  obtain ⟨p2, hp2⟩ : ∃ p, p = F2.length := ⟨_, rfl⟩
  rw [← hp1] at hf1 Htt; rw [← hp2] at hf2 Htt
  have Hp1 := hid hp1; have Hp2 := hid hp2
  rw [hl1] at hF1; rw [hl2] at hF2
  have HF1 := hid hF1; have HF2 := hid hF2
  have hmin1 := run_min8 n1 l1.length hk1
  have hmin2 := run_min8 n2 l2.length hk2
  clear hl1 hl2 hk1 hk2 hsc htt hp1 hp2 hF1 hF2
  go_enter Try.func13, Try.ntmps13
  go_wp2_with fail
  refine (shown9_calls _).mono ?_
  rintro e w1 ⟨rfl, hb1⟩
  have HB1 := hid hb1; clear hb1
  go_wp2_with fail
  -- t := crc.New() in a variable of its own: from w1 on
  refine (new_calls _).mono ?_
  rintro e w2 ⟨rfl, hb2⟩
  have HB2 := hid (below_then HB1.out HB1.out.size hb2); clear hb2 HB1
  go_wp2_with (refine wpList_store_tab (w := w2) rfl (.tmp 6) (.tmp 12) rfl rfl rfl ?_)
  have Ht := hid (TabAt.new w2)
  have HB3 := hid (below_tab HB2.out HB2.out.size)
  have hz3 : w.heap.size ≤ w2.heap.size := HB2.out.size
  have Hz3 := hid hz3; clear hz3 HB2
  generalize hw3 : w2.alloc (.cells (tabs 256) 27) = w3 at Ht HB3 ⊢
  have Hw3 := hid hw3; clear hw3
  go_wp2_with fail
  have hcc := framed_at w2.heap.size A1 n1 C1 a w3 Ht.out (Hi1.out.grow HB3.out)
  refine hcc.mono ?_; clear hcc
  rintro e w4 ⟨v4, rfl, hO4, hB4⟩
  rw [← HF1.out] at hO4
  have HB4 := hid (below_all HB3.out hB4); have Ht4 := hid (Ht.out.below hB4); clear hB4
  obtain ⟨A4, c4, rfl, hc4, Hr4⟩ := hO4.readAt
  rw [← Hp1.out] at hc4 ⊢
  clear hO4
  go_wp2_with fail
  have hcc := framed_at w2.heap.size A2 n2 C2 b w4 Ht4.out (Hi2.out.grow HB4.out)
  refine hcc.mono ?_; clear hcc
  rintro e w5 ⟨v5, rfl, hO5, hB5⟩
  rw [← HF2.out] at hO5
  have HB5 := hid (below_all HB4.out hB5); have Ht5 := hid (Ht4.out.below hB5); have Hr4' := hid (Hr4.out.below hB5); clear hB5
  obtain ⟨A5, c5, rfl, hc5, Hr5⟩ := hO5.readAt
  rw [← Hp2.out] at hc5 ⊢
  clear hO5
  have H5a : Hid (Below w5.heap.size w5 (w5.alloc (.cells #[] 5))) := (Below.refl _ _).alloc (Nat.le_refl _) _
  have Hr4a := hid (Hr4'.out.below H5a.out)
  go_wp2_with (at_builtin; first
    | (refine wpList_appB (w0 := w5) rfl (.tmp 18) (.tmp 19) rfl w5.heap.size _ [] rfl (OB_empty w5 _ (Nat.le_refl _)) H5a H5a.out.size A4 c4 p1 F1 rfl Hp1 Hr4a (by show 0 + _ ≤ _; omega) ?_; intro v6 w6 Hob6 Hbel6 _)
    | (refine wpList_appB (w0 := w5) rfl (.tmp 20) (.tmp 21) rfl w5.heap.size v6 ([] ++ F1) rfl Hob6 Hbel6 Hbel6.out.size A5 c5 p2 F2 rfl Hp2 (Hr5.out.below Hbel6.out) (by have := Hp1.out; rw [List.nil_append]; omega) ?_; intro v7 w7 Hob7' Hbel7 _))
  have Hob7 : Hid (OB w7 w5.heap.size v7 (F1 ++ F2)) := Hob7'
  clear Hob7' Hob6 Hbel6 H5a Hr4a
  have HB7 := hid (below_all HB5.out Hbel7.out)
  have Ht7 := hid (Ht5.out.below Hbel7.out)
  obtain ⟨A7, c7, rfl, hc7, Hr7⟩ := Hob7.out.readAt
  have hl7 : (F1 ++ F2).length = p1 + p2 := by rw [List.length_append, ← Hp1.out, ← Hp2.out]
  rw [hl7] at hc7 ⊢
  have hcc := scan_at w2.heap.size A7 (p1 + p2) c7 (F1 ++ F2) w7 hl7.symm (by omega) hc7 Ht7.out Hr7.out
  clear hl7
  refine hcc.mono ?_; clear hcc
  rintro e w8 ⟨v8, rfl, hO8, hB8⟩
  rw [Hsc.out] at hO8 ⊢
  rw [Htt.out]
  have HB8 := hid (below_all HB7.out hB8); clear hB8
  obtain ⟨A8, c8, rfl, -⟩ := hO8.read
  clear hO8
  rw [List.length_append]
  obtain ⟨k1, hk1⟩ : ∃ k, k = l1.length := ⟨_, rfl⟩
  obtain ⟨k2, hk2⟩ : ∃ k, k = l2.length := ⟨_, rfl⟩
  rw [← hk1] at hmin1
  rw [← hk2] at hmin2
  have hb1 : k1 ≤ 8 := by have := Hk1.out; omega
  have hb2 : k2 ≤ 8 := by have := Hk2.out; omega
  rw [← hk1, ← hk2]
  clear hk1 hk2
  go_wp2
  go_ret
  exact ⟨rfl, HB8.out⟩
end Go.Proofs.Ytjfggfmhchoobaa
