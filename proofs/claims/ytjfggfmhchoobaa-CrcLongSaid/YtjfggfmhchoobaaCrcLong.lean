/- The walk of the law CrcLong. -/
import Derived.Test.YtjfggfmhchoobaaCrcOpen
import Derived.Test.YtjfggfmhchoobaaOpen
namespace Go.Proofs.Ytjfggfmhchoobaa
open Go Go.RowKit
set_option linter.unusedSimpArgs false
set_option linter.unusedVariables false

set_option maxRecDepth 100000 in
set_option maxHeartbeats 1000000 in
theorem crcLong_walk (A : Option Addr) (n c : Nat) (bs : List UInt8) (w : World) (hn : n = bs.length) (hc : n ≤ c) (hm : n ≤ 9223372036854775807) (hb : RB w A bs) :
    Calls Try.prog 8 #[.slice A n c] w fun e w' => e = .returned (.bool true) ∧ Below w.heap.size w w' := by
  have hz := zero_tab
  have Hn := hid hn; clear hn
  have Hb := hid hb; clear hb
  have key : ∃ m xs, Hid (m = xs.length) ∧ Hid (RB w A xs) ∧ m ≤ c ∧ m ≤ 300 ∧ (300 < n ∧ m = 300 ∨ ¬ 300 < n ∧ m ≤ 3 ∧ m = n ∨ ¬ 300 < n ∧ ¬ m ≤ 3 ∧ m = n) := by
    by_cases h : 300 < n
    · exact ⟨300, bs.take 300, by show 300 = _; rw [List.length_take, ← Hn.out]; omega, Hb.out.take 300, by omega, by omega, .inl ⟨h, rfl⟩⟩
    · exact ⟨n, bs, Hn, Hb, hc, by omega, by omega⟩
  clear Hn Hb
  obtain ⟨m, xs, Hn, Hb, hmc, hm3, h⟩ := key
  have hl1 := Crc.seal_length xs
  have hl2 := Crc.seal_length (Crc.seal_ xs)
  have Hl1 := hid hl1; have Hl2 := hid hl2; clear hl1 hl2
  have hs1 : (Crc.seal_ xs).length ≤ 304 := by rw [Hl1.out, ← Hn.out]; omega
  have hs2 : (Crc.seal_ (Crc.seal_ xs)).length ≤ 308 := by rw [Hl2.out]; omega
  have hlen : (((Crc.seal_ (Crc.seal_ xs)).length : Int) == (m : Int) + 8) = true := by rw [beq_iff_eq, Hl2.out, Hl1.out, ← Hn.out]; omega
  have hlen' : ((Crc.seal_ (Crc.seal_ xs)).length : Int) = (m : Int) + 8 := by rw [Hl2.out, Hl1.out, ← Hn.out]; omega
  have Hlen := hid hlen'; clear hlen' hlen
  have hbad : ∀ k : Nat, k ≤ 3 → Crc.good (xs.take k) = false := fun k hk => good_short (by rw [List.length_take]; omega)
  have Hbad := hid hbad; clear hbad
  rcases h with ⟨h, rfl⟩ | ⟨h, h3, rfl⟩ | ⟨h, h3, rfl⟩
  all_goals
    go_enter Try.func8, Try.ntmps8
    go_wp2_with fail
    refine (shown_calls _).mono ?_
    rintro e w1 ⟨rfl, hb1⟩
    have HB1 := hid hb1; clear hb1
    go_wp2_with fail
    -- t := crc.New() in a variable of its own: from w1 on
    refine (new_calls _).mono ?_
    rintro e w2 ⟨rfl, hb2⟩
    have HB2 := hid (below_then HB1.out HB1.out.size hb2); clear hb2 HB1
    go_wp2_with (refine wpList_store_tab (w := w2) rfl (.tmp 4) (.tmp 13) rfl rfl rfl ?_)
    have Ht := hid (TabAt.new w2)
    have HB3 := hid (below_tab HB2.out HB2.out.size)
    have hz3 : w.heap.size ≤ w2.heap.size := HB2.out.size
    have Hz3 := hid hz3; clear hz3 HB2
    generalize hw3 : w2.alloc (.cells (tabs 256) 27) = w3 at Ht HB3 ⊢
    have Hw3 := hid hw3; clear hw3
    go_wp2_with fail
    have hcc := seal_at w2.heap.size A _ c xs w3 Hn.out (by omega) Ht.out (Hb.out.below HB3.out)
    refine hcc.mono ?_; clear hcc
    rintro e w4 ⟨v4, rfl, hO4, hB4⟩
    have HB4 := hid (below_all HB3.out hB4); have Ht4 := hid (Ht.out.below hB4); clear hB4
    obtain ⟨A4, c4, rfl, hc4, Hr4⟩ := hO4.readAt
    clear hO4
    go_wp2_with fail
    have hcc := seal_at w2.heap.size A4 _ c4 (Crc.seal_ xs) w4 rfl (by omega) Ht4.out Hr4.out
    refine hcc.mono ?_; clear hcc
    rintro e w5 ⟨v5, rfl, hO5, hB5⟩
    have HB5 := hid (below_all HB4.out hB5); have Ht5 := hid (Ht4.out.below hB5); clear hB5
    obtain ⟨A5, c5, rfl, hc5, Hr5⟩ := hO5.readAt
    clear hO5
    go_wp2_with fail
    have hcc := open_at w2.heap.size A5 _ c5 (Crc.seal_ (Crc.seal_ xs)) w5 rfl (by omega) hc5 Ht5.out Hr5.out
    refine hcc.mono ?_; clear hcc
    intro e w6 hR
    obtain ⟨v6, rfl, hO6, hB6⟩ := hR.sealed
    have HB6 := hid (below_all HB5.out hB6); have Ht6 := hid (Ht5.out.below hB6); clear hB6 hR
    obtain ⟨A6, c6, rfl, hc6, Hr6⟩ := hO6.readAt
    clear hO6
    go_wp2_with fail
    have hcc := open_at w2.heap.size A6 _ c6 (Crc.seal_ xs) w6 rfl (by omega) hc6 Ht6.out Hr6.out
    refine hcc.mono ?_; clear hcc
    intro e w7 hR
    obtain ⟨v7, rfl, hO7, hB7⟩ := hR.sealed
    have HB7 := hid (below_all HB6.out hB7); have Ht7 := hid (Ht6.out.below hB7); clear hB7 hR
    obtain ⟨A7, c7, rfl, hc7, Hr7⟩ := hO7.readAt
    clear hO7
    go_wp2_with fail
    first
      | have hcc := open_at w2.heap.size A 3 c (xs.take 3) w7 (by rw [List.length_take, ← Hn.out]; omega) (by omega) (by omega) Ht7.out ((Hb.out.take 3).below HB7.out)
        refine hcc.mono ?_; clear hcc
        have hbd := Hbad.out 3 (by omega)
      | have hcc := open_at w2.heap.size A m c (xs.take m) w7 (by rw [List.length_take, ← Hn.out]; omega) (by omega) (by omega) Ht7.out ((Hb.out.take m).below HB7.out)
        refine hcc.mono ?_; clear hcc
        have hbd := Hbad.out m (by omega)
    intro e w8 hR
    obtain ⟨v8, rfl, hO8, hB8⟩ := hR.bad hbd
    have HB8 := hid (below_all HB7.out hB8); clear hbd hR
    obtain ⟨A8, c8, rfl, -, -⟩ := hO8.readAt
    have e1 := run_str (Hr7.out.below hB8) c7
    have e2 := run_str_at Hn.out (Hb.out.below HB8.out) c
    rw [← Hn.out] at e1
    simp only [Hl2.out, Hl1.out, ← Hn.out]
    have e4 := str_toList xs
    clear hB8 hO8
    go_wp2
    go_ret
    exact ⟨rfl, HB8.out⟩
theorem crcLong_in (A : Option Addr) (n c : Nat) (bs : List UInt8) (w : World) (h : InB w A n c bs) :
    Calls Try.prog 8 #[.slice A n c] w fun e w' => e = .returned (.bool true) ∧ Below w.heap.size w w' :=
  crcLong_walk A n c bs w h.len h.cap (Nat.le_trans h.cap h.max) h.read
end Go.Proofs.Ytjfggfmhchoobaa
