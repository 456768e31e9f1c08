/- The walk of the law FrameOne. -/
import Derived.Test.YtjfggfmhchoobaaFrame7
import Derived.Deep.DeepCutAuto
namespace Go.Proofs.Ytjfggfmhchoobaa
open Go Go.RowKit
set_option linter.unusedSimpArgs false
set_option linter.unusedVariables false

theorem scan_total_frm (x y : List UInt8) (h : x.length ≤ 16384) : Frm.total (Frm.scan (Frm.frm x ++ y)) = 8 + x.length + Frm.total (Frm.scan y) ∧ (Frm.scan (Frm.frm x ++ y)).length = (Frm.scan y).length + 1 := by
  rw [Frm.scan_frm x y h]
  refine ⟨by unfold Frm.total; simp, by simp⟩
/-- The first 2000 of what came in. -/
theorem two_in {W : World} {A : Option Addr} {n c : Nat} {bs : List UInt8} (hn : n = bs.length) (hc : n ≤ c) (hb : RB W A bs) :
    ∃ m x, m = min n 2000 ∧ Hid (m = x.length) ∧ m ≤ c ∧ m ≤ 2000 ∧ Hid (RB W A x) :=
  ⟨min n 2000, bs.take 2000, rfl, by show min n 2000 = _; rw [List.length_take]; omega, by omega, by omega, hb.take 2000⟩
theorem total_le (b : List UInt8) : Frm.total (Frm.scan b) ≤ b.length := (Frm.scan_spec _ b (Nat.lt_succ_self _)).elim fun _ h => h.2.2.1

set_option maxRecDepth 100000 in
set_option maxHeartbeats 4000000 in
theorem frameOne_in (A1 : Option Addr) (n1 C1 : Nat) (b1 : List UInt8) (A2 : Option Addr) (n2 C2 : Nat) (b2 : List UInt8) (w : World) (i1 : InB w A1 n1 C1 b1) (i2 : InB w A2 n2 C2 b2) :
    Calls Try.prog 12 #[.slice A1 n1 C1, .slice A2 n2 C2] w fun e w' => e = .returned (.bool true) ∧ Below w.heap.size w w' := by
  have hz := zero_tab
  obtain ⟨m1, x, hm1, Hx, hmc1, hl1, Hbx⟩ := two_in i1.len i1.cap i1.read
  obtain ⟨m2, y, hm2, Hy, hmc2, hl2, Hby⟩ := two_in i2.len i2.cap i2.read
  have Hm1 := hid hm1; have Hm2 := hid hm2; clear hm1 hm2
  have hc1 := i1.cap; have hc2 := i2.cap; clear i1 i2
  go_enter Try.func12, Try.ntmps12
  go_wp2_with fail
  refine (shown9_calls _).mono ?_
  rintro e w1 ⟨rfl, hb1⟩
  have HB1 := hid hb1; clear hb1
  go_wp2_with fail
  -- t := crc.New() in a variable of its own: from w1 on
  refine (new_calls _).mono ?_
  rintro e w2 ⟨rfl, hb2⟩
  have HB2 := hid (below_then HB1.out HB1.out.size hb2); clear hb2 HB1
  go_upto_if 20 with (refine wpList_store_tab (w := w2) rfl (.tmp 6) (.tmp 17) rfl rfl rfl ?_)
  have Ht := hid (TabAt.new w2)
  have HB3 := hid (below_tab HB2.out HB2.out.size)
  have hz3 : w.heap.size ≤ w2.heap.size := HB2.out.size
  have Hz3 := hid hz3; clear hz3 HB2
  generalize hw3 : w2.alloc (.cells (tabs 256) 27) = w3 at Ht HB3 ⊢
  have Hw3 := hid hw3; clear hw3
  go_cut [0] (fun s wx => s = .slice A1 m1 C1 ∧ w3 = wx)
  case first =>
    by_cases h : n1 ≤ 2000
    · have e : m1 = n1 := by have := Hm1.out; omega
      go_wp2_with fail
      go_meet
      case rel => exact ⟨by rw [e], rfl⟩
    · have e : m1 = 2000 := by have := Hm1.out; omega
      go_wp2_with fail
      go_meet
      case rel => exact ⟨by rw [e], rfl⟩
  case rest =>
    obtain ⟨rfl, rfl⟩ := hcut
    go_upto_if 25 with (fail)
    go_cut [1] (fun s wx => s = .slice A2 m2 C2 ∧ w3 = wx)
    case first =>
      by_cases h : n2 ≤ 2000
      · have e : m2 = n2 := by have := Hm2.out; omega
        go_wp2_with fail
        go_meet
        case rel => exact ⟨by rw [e], rfl⟩
      · have e : m2 = 2000 := by have := Hm2.out; omega
        go_wp2_with fail
        go_meet
        case rel => exact ⟨by rw [e], rfl⟩
    case rest =>
      obtain ⟨rfl, rfl⟩ := hcut
      go_wp2_with fail
      have hcc := put_at w2.heap.size A1 m1 C1 x w3 Hx.out (by omega) Ht.out (Hbx.out.below HB3.out)
      refine hcc.mono ?_; clear hcc
      rintro e w4 ⟨v4, rfl, hO4, hB4⟩
      have HB4 := hid (below_all HB3.out hB4); have Ht4 := hid (Ht.out.below hB4); clear hB4
      obtain ⟨A4, c4, rfl, hc4, Hr4⟩ := hO4.readAt
      clear hO4
      obtain ⟨F, hF⟩ : ∃ F, F = Frm.frm x := ⟨_, rfl⟩
      have hFl : m1 + 8 = F.length := by rw [hF, Frm.frm_length, Hx.out]
      rw [← hF, ← hFl] at hc4
      rw [← hF] at Hr4
      rw [← hF, ← hFl]
      have HF := hid hF; have HFl := hid hFl; clear hF hFl
      have H4a : Hid (Below w4.heap.size w4 (w4.alloc (.cells #[] 5))) := (Below.refl _ _).alloc (Nat.le_refl _) _
      have Hr4a := hid (Hr4.out.below H4a.out)
      go_wp2_with (at_builtin; first
        | (refine wpList_appB (w0 := w4) rfl (.tmp 33) (.tmp 34) rfl w4.heap.size _ [] rfl (OB_empty w4 _ (Nat.le_refl _)) H4a H4a.out.size A4 c4 (m1 + 8) F rfl HFl Hr4a (by show 0 + _ ≤ _; omega) ?_; intro v5 w5 Hob5 Hbel5 _)
        | (refine wpList_appB (w0 := w4) rfl (.tmp 35) (.tmp 36) rfl w4.heap.size v5 ([] ++ F) rfl Hob5 Hbel5 Hbel5.out.size A2 C2 m2 y rfl Hy (Hby.out.below (below_all HB4.out Hbel5.out)) (by have := HFl.out; rw [List.nil_append]; omega) ?_; intro v6 w6 Hob6' Hbel6 _))
      have Hob6 : Hid (OB w6 w4.heap.size v6 (F ++ y)) := Hob6'
      clear Hob6' Hob5 Hbel5 H4a Hr4a
      have HB6 := hid (below_all HB4.out Hbel6.out)
      have Ht6 := hid (Ht4.out.below Hbel6.out)
      have hb6 : (F ++ y).length = m1 + 8 + m2 := by rw [List.length_append, ← HFl.out, ← Hy.out]
      obtain ⟨A6, c6, rfl, hc6, Hr6⟩ := Hob6.out.readAt
      rw [hb6] at hc6
      rw [hb6]
      have hb6' := hid hb6.symm; clear hb6 Hob6
      obtain ⟨b, hb⟩ : ∃ b, b = F ++ y := ⟨_, rfl⟩
      rw [← hb] at Hr6 hb6'
      have htk : Frm.takeF b = some x := by rw [hb, HF.out]; exact Frm.take_frm x y (by rw [← Hx.out]; omega)
      have hsc := scan_total_frm x y (by rw [← Hx.out]; omega)
      rw [← HF.out, ← hb, ← Hx.out] at hsc
      have Hb := hid hb; have Htk := hid htk; have Hsc := hid hsc
      clear hb htk hsc
      go_wp2_with fail
      have hcc := take_at w2.heap.size A6 (m1 + 8 + m2) c6 b w6 hb6'.out (by omega) hc6 Ht6.out Hr6.out
      refine hcc.mono ?_; clear hcc
      rintro e w7 ⟨hB7, hres⟩
      rw [Htk.out] at hres
      obtain ⟨v7, rfl, hO7⟩ := hres
      have Ht7 := hid (Ht6.out.below hB7); have HB7 := hid (below_all HB6.out hB7)
      have Hr7 := hid (Hr6.out.below hB7)
      clear hB7
      obtain ⟨A7, c7, rfl, hc7, HR7⟩ := hO7.readAt
      clear hO7
      rw [← Hx.out]
      go_wp2_with fail
      have hcc := scan_at w2.heap.size A6 (m1 + 8 + m2) c6 b w7 hb6'.out (by omega) hc6 Ht7.out Hr7.out
      refine hcc.mono ?_; clear hcc
      rintro e w8 ⟨v8, rfl, hO8, hB8⟩
      have Ht8 := hid (Ht7.out.below hB8); have HB8 := hid (below_all HB7.out hB8)
      have HR8 := hid (HR7.out.below hB8)
      clear hB8
      obtain ⟨A8, c8, rfl, -⟩ := hO8.read
      clear hO8
      rw [Hsc.out.1, Hsc.out.2]
      go_wp2_with fail
      have hcc := scan_at w2.heap.size A2 m2 C2 y w8 Hy.out (by omega) (by omega) Ht8.out (Hby.out.below HB8.out)
      refine hcc.mono ?_; clear hcc
      rintro e w9 ⟨v9, rfl, hO9, hB9⟩
      have HB9 := hid (below_all HB8.out hB9)
      have HR9 := hid (HR8.out.below hB9)
      clear hB9
      obtain ⟨A9, c9, rfl, -⟩ := hO9.read
      clear hO9
      have htl := total_le y
      rw [← Hy.out] at htl
      have hll := total_len (Frm.scan y)
      obtain ⟨T, hT⟩ : ∃ T, T = Frm.total (Frm.scan y) := ⟨_, rfl⟩
      obtain ⟨L, hL⟩ : ∃ L, L = (Frm.scan y).length := ⟨_, rfl⟩
      rw [← hT, ← hL] at hll
      rw [← hT] at htl
      rw [← hT, ← hL]
      clear hT hL Hsc
      have e1 := run_str_at Hx.out HR9.out c7
      have e2 := run_str_at Hx.out (Hbx.out.below HB9.out) C1
      have e3 := str_toList x
      have e4 : ((8 + m1 + T : Nat) : Int) = ((8 + m1 : Nat) : Int) + (T : Int) := by omega
      have e5 : ((8 + m1 : Nat) : Int) = ((m1 + 8 : Nat) : Int) := by omega
      go_wp2
      go_ret
      exact ⟨rfl, HB9.out⟩
end Go.Proofs.Ytjfggfmhchoobaa
