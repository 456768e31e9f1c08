/- The walk of the law FramePuts. -/
import Derived.Test.YtjfggfmhchoobaaFrame7
import Derived.Test.YtjfggfmhchoobaaFrameSame
namespace Go.Proofs.Ytjfggfmhchoobaa
open Go Go.RowKit
set_option linter.unusedSimpArgs false
set_option linter.unusedVariables false

/-- Take, in one line. -/
def takeN (bs : List UInt8) : Nat := match Frm.takeF bs with | none => 0 | some x => 8 + x.length
theorem RetTake.one {w w' : World} {bs : List UInt8} {e : Ending} (h : RetTake w bs e w') : ∃ v, e = .returned (.tuple #[v, .int .i64 ((takeN bs : Nat) : Int)]) ∧ OB w' w.heap.size v ((Frm.takeF bs).getD []) ∧ Below w.heap.size w w' := by
  obtain ⟨hB, h⟩ := h
  unfold takeN
  cases hq : Frm.takeF bs with
  | none => rw [hq] at h; exact ⟨_, h, OB_nil _ _, hB⟩
  | some x => rw [hq] at h; obtain ⟨v, h1, h2⟩ := h; exact ⟨v, h1, h2, hB⟩

set_option maxRecDepth 100000 in
set_option maxHeartbeats 4000000 in
theorem framePuts_in (A1 : Option Addr) (n1 C1 : Nat) (b1 : List UInt8) (A2 : Option Addr) (n2 C2 : Nat) (b2 : List UInt8) (w : World) (i1 : InB w A1 n1 C1 b1) (i2 : InB w A2 n2 C2 b2) :
    Calls Try.prog 10 #[.slice A1 n1 C1, .slice A2 n2 C2] w fun e w' => e = .returned (.bool true) ∧ Below w.heap.size w w' := by
  have hz := zero_tab
  obtain ⟨m1, x, hm1, Hx, hmc1, hl1, Hbx, -⟩ := few9_in i1.len i1.cap i1.read
  obtain ⟨m2, y, hm2, Hy, hmc2, hl2, Hby, -⟩ := few9_in i2.len i2.cap i2.read
  have Hm1 := hid hm1; have Hm2 := hid hm2; clear hm1 hm2
  have Hc1 := hid i1.cap; have Hc2 := hid i2.cap; clear i1 i2
  go_enter Try.func10, Try.ntmps10
  go_wp2_with fail
  refine (shown9_calls _).mono ?_
  rintro e w1 ⟨rfl, hb1⟩
  have HB1 := hid hb1; clear hb1
  go_wp2_with fail
  -- t := crc.New() in a variable of its own: from w1 on
  refine (new_calls _).mono ?_
  rintro e w2 ⟨rfl, hb2⟩
  have HB2 := hid (below_then HB1.out HB1.out.size hb2); clear hb2 HB1
  go_wp2_with (refine wpList_store_tab (w := w2) rfl (.tmp 6) (.tmp 21) rfl rfl rfl ?_)
  have Ht := hid (TabAt.new w2)
  have HB3 := hid (below_tab HB2.out HB2.out.size)
  have hz3 : w.heap.size ≤ w2.heap.size := HB2.out.size
  have Hz3 := hid hz3; clear hz3 HB2
  generalize hw3 : w2.alloc (.cells (tabs 256) 27) = w3 at Ht HB3 ⊢
  have Hw3 := hid hw3; clear hw3
  go_wp2_with fail
  refine (few9_to A1 n1 m1 C1 _ Hc1.out Hm1.out).mono ?_
  rintro e w' ⟨rfl, rfl⟩
  go_wp2_with fail
  have hcc := put_any w2.heap.size A1 m1 C1 x w3 Hx.out Ht.out (Hbx.out.below HB3.out)
  refine hcc.mono ?_; clear hcc
  rintro e w4 ⟨v4, rfl, hO4, hB4⟩
  have HB4 := hid (below_all HB3.out hB4); have Ht4 := hid (Ht.out.below hB4); clear hB4
  obtain ⟨A4, c4, rfl, hc4, Hr4⟩ := hO4.readAt
  clear hO4
  go_wp2_with fail
  refine (few9_to A1 n1 m1 C1 _ Hc1.out Hm1.out).mono ?_
  rintro e w' ⟨rfl, rfl⟩
  go_wp2_with fail
  have hcc := refPut_any A1 m1 C1 x w4 Hx.out (Hbx.out.below HB4.out)
  refine hcc.mono ?_; clear hcc
  rintro e w5 ⟨v5, rfl, hO5, hB5⟩
  have HB5 := hid (below_all HB4.out hB5); have Ht5 := hid (Ht4.out.below hB5); have Hr4' := hid (Hr4.out.below hB5); have E5 := hid hB5; clear hB5
  obtain ⟨A5, c5, rfl, hc5, Hr5⟩ := hO5.readAt
  clear hO5
  go_wp2_with fail
  refine (few9_to A2 n2 m2 C2 _ Hc2.out Hm2.out).mono ?_
  rintro e w' ⟨rfl, rfl⟩
  go_wp2_with fail
  have hcc := take_at w2.heap.size A2 m2 C2 y w5 Hy.out (by omega) (by omega) Ht5.out (Hby.out.below HB5.out)
  refine hcc.mono ?_; clear hcc
  intro e w6 hR
  obtain ⟨v6, rfl, hO6, hB6⟩ := hR.one
  have HB6 := hid (below_all HB5.out hB6); have Ht6 := hid (Ht5.out.below hB6); have E6 := hid hB6; clear hB6 hR
  obtain ⟨A6, c6, rfl, hc6, Hr6⟩ := hO6.readAt
  clear hO6
  go_wp2_with fail
  refine (few9_to A2 n2 m2 C2 _ Hc2.out Hm2.out).mono ?_
  rintro e w' ⟨rfl, rfl⟩
  go_wp2_with fail
  have hcc := refTake_at A2 m2 C2 y w6 Hy.out (by omega) (by omega) (Hby.out.below HB6.out)
  refine hcc.mono ?_; clear hcc
  intro e w7 hR
  obtain ⟨v7, rfl, hO7, hB7⟩ := hR.one
  have HB7 := hid (below_all HB6.out hB7); have Ht7 := hid (Ht6.out.below hB7); have E7 := hid hB7; clear hB7 hR
  obtain ⟨A7, c7, rfl, hc7, Hr7⟩ := hO7.readAt
  clear hO7
  go_wp2_with fail
  refine (few9_to A2 n2 m2 C2 _ Hc2.out Hm2.out).mono ?_
  rintro e w' ⟨rfl, rfl⟩
  go_wp2_with fail
  have hcc := scan_at w2.heap.size A2 m2 C2 y w7 Hy.out (by omega) (by omega) Ht7.out (Hby.out.below HB7.out)
  refine hcc.mono ?_; clear hcc
  rintro e w8 ⟨v8, rfl, hO8, hB8⟩
  have HB8 := hid (below_all HB7.out hB8); have E8 := hid hB8; clear hB8
  obtain ⟨A8, c8, rfl, hs8⟩ := hO8.read
  have Hs8 := hid hs8; clear hO8 hs8
  go_wp2_with fail
  refine (few9_to A2 n2 m2 C2 _ Hc2.out Hm2.out).mono ?_
  rintro e w' ⟨rfl, rfl⟩
  go_wp2_with fail
  have hcc := refScan_at A2 m2 C2 y w8 Hy.out (by omega) (by omega) (Hby.out.below HB8.out)
  refine hcc.mono ?_; clear hcc
  rintro e w9 ⟨v9, rfl, hO9, hB9⟩
  have HB9 := hid (below_all HB8.out hB9); have Hs9 := hid (Hs8.out.grow hB9); have E9 := hid hB9; clear hB9
  obtain ⟨A9, c9, rfl, hs9⟩ := hO9.read
  have Hs9' := hid hs9; clear hO9 hs9
  go_wp2_with fail
  have htl := total_len (Frm.scan y)
  have htl2 := (Frm.scan_spec _ y (Nat.lt_succ_self _)).elim fun _ h => h.2.2.1
  have hcc := same_at A8 (Frm.scan y).length c8 (Frm.scan y) A9 (Frm.scan y).length c9 (Frm.scan y) w9 (by have := Hy.out; omega) Hs9.out Hs9'.out
  refine hcc.mono ?_; clear hcc
  rintro e w10 ⟨rfl, hE⟩
  have HBf := hid (below_all HB9.out hE)
  have F8 := below_all E9.out hE
  have F7 := below_all E8.out F8
  have F6 := below_all E7.out F7
  have F5 := below_all E6.out F6
  have F4 := below_all E5.out F5
  have e4 := run_str (Hr4.out.below F4) c4
  have e5 := run_str (Hr5.out.below F5) c5
  have e6 := run_str (Hr6.out.below F6) c6
  have e7 := run_str (Hr7.out.below F7) c7
  rw [show decide (Frm.scan y = Frm.scan y) = true from decide_eq_true rfl]
  clear hE F4 F5 F6 F7 F8 E5 E6 E7 E8 E9 htl htl2
  go_wp2
  go_ret
  exact ⟨rfl, HBf.out⟩
end Go.Proofs.Ytjfggfmhchoobaa
