/- The laws' own helpers of chapter 9: shown and few. -/
import Derived.Test.YtjfggfmhchoobaaFrame6
import Derived.Test.YtjfggfmhchoobaaOpen
namespace Go.Proofs.Ytjfggfmhchoobaa
open Go Go.RowKit
set_option linter.unusedSimpArgs false
set_option linter.unusedVariables false

theorem frm_nil_head : (Frm.frm []).take 4 = [0, 0, 0, 0] := by
  unfold Frm.frm Frm.len4
  rw [List.append_assoc, List.take_append_of_le_length (by rw [Crc.le4_length]; exact Nat.le_refl _), List.take_of_length_le (by rw [Crc.le4_length]; exact Nat.le_refl _)]
  rw [show ([] : List UInt8).length = 0 from rfl]
  decide +kernel
theorem frm_nil_length : (Frm.frm []).length = 8 := Frm.frm_length []
theorem take_frm_nil : Frm.takeF (Frm.frm []) = some [] := by
  have := Frm.take_frm [] [] (by simp)
  rwa [List.append_nil] at this

set_option maxRecDepth 100000 in
set_option maxHeartbeats 1000000 in
theorem shown9_calls (w : World) :
    Calls Try.prog 24 #[] w fun e w' => e = .returned (.bool true) ∧ Below w.heap.size w w' := by
  have hz := zero_tab
  go_enter Try.func24, Try.ntmps24
  go_wp2_with fail
  have HB1 := hid (Below.refl w.heap.size w)
  -- t := crc.New() in a variable of its own: from w1 on
  refine (new_calls _).mono ?_
  rintro e w2 ⟨rfl, hb2⟩
  have HB2 := hid (below_then HB1.out HB1.out.size hb2); clear hb2 HB1
  go_wp2_with (refine wpList_store_tab (w := w2) rfl (.tmp 1) (.tmp 6) rfl rfl rfl ?_)
  have Ht := hid (TabAt.new w2)
  have HB3 := hid (below_tab HB2.out HB2.out.size)
  have hz3 : w.heap.size ≤ w2.heap.size := HB2.out.size
  have Hz3 := hid hz3; clear hz3 HB2
  generalize hw3 : w2.alloc (.cells (tabs 256) 27) = w3 at Ht HB3 ⊢
  have Hw3 := hid hw3; clear hw3
  go_wp2_with fail
  have hcc := put_at w2.heap.size none 0 0 [] w3 rfl (by omega) Ht.out (RB.nil _ _)
  refine hcc.mono ?_; clear hcc
  rintro e w4 ⟨v4, rfl, hO4, hB4⟩
  have HB4 := hid (below_all HB3.out hB4); have Ht4 := hid (Ht.out.below hB4); clear hB4
  obtain ⟨A4, c4, rfl, hc4, Hr4⟩ := hO4.readAt
  clear hO4
  rw [frm_nil_length] at hc4 ⊢
  go_wp2_with fail
  have hcc := take_at w2.heap.size A4 8 c4 (Frm.frm []) w4 frm_nil_length.symm (by omega) hc4 Ht4.out Hr4.out
  refine hcc.mono ?_; clear hcc
  rintro e w5 ⟨hB5, hres⟩
  rw [take_frm_nil] at hres
  obtain ⟨v5, rfl, -⟩ := hres
  have e1 := run_str_at (n := 4) (by rw [frm_nil_head]; rfl) ((Hr4.out.take 4).below hB5) c4
  rw [frm_nil_head] at e1
  have e2 := str_toList [0, 0, 0, 0]
  have HB5 := hid (below_all HB4.out hB5); clear hB5
  go_wp2
  go_ret
  exact ⟨rfl, HB5.out⟩

theorem few9_at (A : Option Addr) (n c : Nat) (w : World) (hc : n ≤ c) :
    Calls Try.prog 25 #[.slice A n c] w fun e w' => e = .returned (.slice A (min n 16400) c) ∧ w = w' := by
  by_cases h : n ≤ 16400
  · have hm := hid (show min n 16400 = n by omega)
    go_enter Try.func25, Try.ntmps25
    go_wp2
    go_ret
    exact ⟨by rw [hm.out]; rfl, rfl⟩
  · have hm := hid (show min n 16400 = 16400 by omega)
    go_enter Try.func25, Try.ntmps25
    go_wp2
    go_ret
    exact ⟨by rw [hm.out]; rfl, rfl⟩
theorem few9_to (A : Option Addr) (n m c : Nat) (w : World) (hc : n ≤ c) (hm : m = min n 16400) :
    Calls Try.prog 25 #[.slice A n c] w fun e w' => e = .returned (.slice A m c) ∧ w = w' := by
  subst hm; exact few9_at A n c w hc
/-- The first of what came in. -/
theorem few9_in {W : World} {A : Option Addr} {n c : Nat} {bs : List UInt8} (hn : n = bs.length) (hc : n ≤ c) (hb : RB W A bs) :
    ∃ m x, m = min n 16400 ∧ Hid (m = x.length) ∧ m ≤ c ∧ m ≤ 16400 ∧ Hid (RB W A x) ∧ x = bs.take 16400 :=
  ⟨min n 16400, bs.take 16400, rfl, by show min n 16400 = _; rw [List.length_take]; omega, by omega, by omega, hb.take 16400, rfl⟩

/-- Put, whatever the size. -/
def putE (bs : List UInt8) : Int := if 16384 < bs.length then 3 else 0
def putB (bs : List UInt8) : List UInt8 := if 16384 < bs.length then [] else Frm.frm bs
theorem put_any (tb : Nat) (A : Option Addr) (n c : Nat) (bs : List UInt8) (w : World) (hn : n = bs.length) (ht : TabAt w tb) (hb : RB w A bs) :
    Calls Try.prog 26 #[.pointer (some ⟨tb, 0, none⟩), .slice A n c] w fun e w' => ∃ v, e = .returned (.tuple #[v, .int .i64 (putE bs)]) ∧ OB w' w.heap.size v (putB bs) ∧ Below w.heap.size w w' := by
  unfold putE putB
  by_cases h : 16384 < n
  · have hcc := put_big tb A n c w h
    refine hcc.mono ?_
    rintro e w' ⟨rfl, rfl⟩
    rw [if_pos (by omega), if_pos (by omega)]
    exact ⟨_, rfl, OB_nil _ _, Below.refl _ _⟩
  · have hcc := put_at tb A n c bs w hn (by omega) ht hb
    refine hcc.mono ?_
    rw [if_neg (by omega), if_neg (by omega)]
    exact fun e w' h => h
theorem refPut_any (A : Option Addr) (n c : Nat) (bs : List UInt8) (w : World) (hn : n = bs.length) (hb : RB w A bs) :
    Calls Try.prog 27 #[.slice A n c] w fun e w' => ∃ v, e = .returned (.tuple #[v, .int .i64 (putE bs)]) ∧ OB w' w.heap.size v (putB bs) ∧ Below w.heap.size w w' := by
  unfold putE putB
  by_cases h : 16384 < n
  · have hcc := refPut_big A n c w h
    refine hcc.mono ?_
    rintro e w' ⟨rfl, rfl⟩
    rw [if_pos (by omega), if_pos (by omega)]
    exact ⟨_, rfl, OB_nil _ _, Below.refl _ _⟩
  · have hcc := refPut_at A n c bs w hn (by omega) hb
    refine hcc.mono ?_
    rw [if_neg (by omega), if_neg (by omega)]
    exact fun e w' h => h
end Go.Proofs.Ytjfggfmhchoobaa
