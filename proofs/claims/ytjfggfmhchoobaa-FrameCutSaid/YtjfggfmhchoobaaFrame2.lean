/- The walks of frame.Put, bytes.Clone and of the reference's Put (chapter 9). -/
import Derived.Test.YtjfggfmhchoobaaFrame1
import Derived.Lib.SliceRun
namespace Go.Proofs.Ytjfggfmhchoobaa
open Go Go.RowKit
set_option linter.unusedSimpArgs false
set_option linter.unusedVariables false

theorem low_at (n : Nat) (h : n < 4294967296) (w : World) : Calls Try.prog 35 #[.int .u32 (n : Int)] w (RetFour w (BitVec.ofNat 32 n)) := by
  have := low_calls (BitVec.ofNat 32 n) w
  rwa [show (BitVec.ofNat 32 n).toNat = n by simp; omega] at this
theorem four_at (n : Nat) (h : n < 4294967296) (w : World) : Calls Try.prog 36 #[.int .u32 (n : Int)] w (RetFour w (BitVec.ofNat 32 n)) := by
  have := four_calls (BitVec.ofNat 32 n) w
  rwa [show (BitVec.ofNat 32 n).toNat = n by simp; omega] at this
theorem refSum_at (A : Option Addr) (n c : Nat) (bs : List UInt8) (w : World) (hn : n = bs.length) (hm : n ≤ 140737488000000) (hb : RB w A bs) :
    Calls Try.prog 21 #[.slice A n c] w fun e w' => e = .returned (.int .u32 ((Crc.sum bs).toNat : Int)) ∧ w = w' := by
  subst hn; exact refSum_calls A c bs w (by omega) hb
theorem frm_eq (x : List UInt8) : Frm.frm x = Crc.le4 (BitVec.ofNat 32 x.length) ++ Crc.le4 (Crc.sum (Crc.le4 (BitVec.ofNat 32 x.length) ++ x)) ++ x := by
  unfold Frm.frm Frm.len4; rfl

/-- A frame, and OK. -/
def RetPut (w : World) (bs : List UInt8) (e : Ending) (w' : World) : Prop := ∃ v, e = .returned (.tuple #[v, .int .i64 0]) ∧ OB w' w.heap.size v (Frm.frm bs) ∧ Below w.heap.size w w'

theorem put_big (tb : Nat) (A : Option Addr) (n c : Nat) (w : World) (hn : 16384 < n) :
    Calls Try.prog 26 #[.pointer (some ⟨tb, 0, none⟩), .slice A n c] w fun e w' => e = .returned (.tuple #[.slice none 0 0, .int .i64 3]) ∧ w = w' := by
  go_enter Try.func26, Try.ntmps26
  go_wp2
  go_ret2
  exact ⟨rfl, rfl⟩
theorem refPut_big (A : Option Addr) (n c : Nat) (w : World) (hn : 16384 < n) :
    Calls Try.prog 27 #[.slice A n c] w fun e w' => e = .returned (.tuple #[.slice none 0 0, .int .i64 3]) ∧ w = w' := by
  go_enter Try.func27, Try.ntmps27
  go_wp2
  go_ret2
  exact ⟨rfl, rfl⟩

set_option maxRecDepth 100000 in
set_option maxHeartbeats 1000000 in
theorem put_at (tb : Nat) (A : Option Addr) (n c : Nat) (bs : List UInt8) (w : World) (hn : n = bs.length) (hm : n ≤ 16384) (ht : TabAt w tb) (hb : RB w A bs) :
    Calls Try.prog 26 #[.pointer (some ⟨tb, 0, none⟩), .slice A n c] w (RetPut w bs) := by
  have Hn := hid hn; clear hn
  have Hb := hid hb; clear hb
  have Ht := hid ht; clear ht
  go_enter Try.func26, Try.ntmps26
  go_wp2_with fail
  refine (low_at n (by omega) w).mono ?_
  rintro e w1 ⟨g1, rfl, hO1, hB1⟩
  have HO1 := hid hO1; have HB1 := hid hB1; clear hO1 hB1
  obtain ⟨l4, hl4⟩ : ∃ l, l = Crc.le4 (BitVec.ofNat 32 n) := ⟨_, rfl⟩
  rw [← hl4] at HO1
  have Hl4 := hid hl4
  have hll : l4.length = 4 := by rw [hl4]; exact Crc.le4_length _
  have Hll := hid hll.symm
  clear hl4 hll
  have hs1 := HB1.out.size
  go_wp2_with (at_builtin; refine wpList_appFull (w := w1) rfl (.tmp 17) (.tmp 18) rfl w.heap.size g1 4 l4 rfl Hll HO1 hs1 A c n bs rfl Hn (Hb.out.below HB1.out) (by omega) ?_; intro v2 w2 Hob2 Hbel2)
  have HB2 := hid (below_all HB1.out Hbel2.out)
  obtain ⟨A2, c2, rfl, hc2, Hr2⟩ := Hob2.out.readAt
  go_wp2_with fail
  have hcc := sum_at tb A2 _ c2 (l4 ++ bs) w2 rfl (by have := Hll.out; have := Hn.out; rw [List.length_append]; omega) (Ht.out.below HB2.out) Hr2.out
  refine hcc.mono ?_; clear hcc
  rintro e w' ⟨rfl, rfl⟩
  go_wp2_with fail
  refine (low_calls (Crc.sum (l4 ++ bs)) w2).mono ?_
  rintro e w3 ⟨g3, rfl, hO3, hB3⟩
  have HO3 := hid hO3; have HB3 := hid (below_all HB2.out hB3)
  have HO1' := hid ((HO1.out.below Hbel2.out).below hB3)
  have hrd3 := hid (OB.readSame hO3)
  clear hO3 hB3
  obtain ⟨s4, hs4⟩ : ∃ s, s = Crc.le4 (Crc.sum (l4 ++ bs)) := ⟨_, rfl⟩
  rw [← hs4] at HO3 hrd3
  have Hs4 := hid hs4
  have hsl : s4.length = 4 := by rw [hs4]; exact Crc.le4_length _
  have Hsl := hid hsl.symm
  clear hs4 hsl
  have hs3 := HB3.out.size
  go_wp2_with (at_builtin; first
    | (refine wpList_appFull (w := w3) rfl (.tmp 21) (.tmp 23) rfl w.heap.size g1 4 l4 rfl Hll HO1' hs3 (some ⟨g3, 0, none⟩) 4 4 s4 rfl Hsl hrd3 (by omega) ?_; intro v4 w4 Hob4 Hbel4; have HB4 := hid (below_all HB3.out Hbel4.out))
    | (refine wpList_appB (w0 := w) rfl (.tmp 24) (.tmp 25) rfl w.heap.size v4 (l4 ++ s4) rfl Hob4 HB4 HB4.out.size A c n bs rfl Hn (Hb.out.below HB4.out) (by have := Hll.out; have := Hsl.out; rw [List.length_append]; omega) ?_; intro v5 w5 Hob5 Hbel5 _))
  go_ret2
  refine ⟨_, rfl, ?_, Hbel5.out⟩
  have := Hob5.out
  rw [Hs4.out, Hl4.out, Hn.out] at this
  rw [frm_eq]
  exact this

set_option maxRecDepth 100000 in
set_option maxHeartbeats 1000000 in
theorem clone_at (A : Option Addr) (n c : Nat) (bs : List UInt8) (w : World) (hn : n = bs.length) (hm : n ≤ 140737488000000) (hb : RB w A bs) :
    Calls Try.prog 37 #[.slice A n c] w (RetB w bs) := by
  have Hn := hid hn; clear hn
  have Hb := hid hb; clear hb
  have q22 : ∀ (w : World) (a : Option Addr) (n c n' c' : Nat), (binOp .eql 22 (.slice a n c) (.slice none n' c')).run Try.prog w = .ok (.bool a.isNone) w := fun w a n c n' c' => Lib.run_eql_slice_nil w _ 5 a n c n' c' Try.underlying22
  cases A with
  | none =>
    have hn0 : bs = [] := by
      rcases Hb.out with h | ⟨_, _, h, _⟩
      · cases bs with
        | nil => rfl
        | cons x l => simp [bvs] at h
      · cases h
    go_enter Try.func37, Try.ntmps37
    go_wp2
    go_ret
    exact ⟨_, rfl, by rw [hn0]; exact OB_nil _ _, Below.refl _ _⟩
  | some ad =>
    go_enter Try.func37, Try.ntmps37
    go_wp2_with (at_builtin; refine wpList_appB (w0 := w) rfl (.tmp 5) (.tmp 6) rfl w.heap.size _ [] rfl (OB_empty w _ (Nat.le_refl _)) ((Below.refl _ _).alloc (Nat.le_refl _) _) (by simp) (some ad) c n bs rfl Hn (Hb.out.below ((Below.refl _ _).alloc (Nat.le_refl _) _)) (by simp; omega) ?_; intro v w1 Hob Hbel _)
    go_ret
    exact ⟨_, rfl, Hob, Hbel⟩

set_option maxRecDepth 100000 in
set_option maxHeartbeats 1000000 in
theorem refPut_at (A : Option Addr) (n c : Nat) (bs : List UInt8) (w : World) (hn : n = bs.length) (hm : n ≤ 16384) (hb : RB w A bs) :
    Calls Try.prog 27 #[.slice A n c] w (RetPut w bs) := by
  have Hn := hid hn; clear hn
  have Hb := hid hb; clear hb
  go_enter Try.func27, Try.ntmps27
  go_wp2_with fail
  refine (four_at n (by omega) w).mono ?_
  rintro e w1 ⟨g1, rfl, hO1, hB1⟩
  have Hr1 := hid (OB.readSame hO1); have HB1 := hid hB1; clear hO1 hB1
  obtain ⟨l4, hl4⟩ : ∃ l, l = Crc.le4 (BitVec.ofNat 32 n) := ⟨_, rfl⟩
  rw [← hl4] at Hr1
  have Hl4 := hid hl4
  have hll : l4.length = 4 := by rw [hl4]; exact Crc.le4_length _
  have Hll := hid hll.symm
  clear hl4 hll
  have hs1 := HB1.out.size
  have H1a : Hid (Below w1.heap.size w1 (w1.alloc (.cells #[] 5))) := (Below.refl _ _).alloc (Nat.le_refl _) _
  have Hr1a := hid (Hr1.out.below H1a.out)
  go_wp2_with (at_builtin; first
    | (refine wpList_appB (w0 := w1) rfl (.tmp 14) (.tmp 15) rfl w1.heap.size _ [] rfl (OB_empty w1 _ (Nat.le_refl _)) H1a H1a.out.size (some ⟨g1, 0, none⟩) 4 4 l4 rfl Hll Hr1a (by simp) ?_; intro v2 w2 Hob2 Hbel2 _)
    | (refine wpList_appB (w0 := w1) rfl (.tmp 16) (.tmp 17) rfl w1.heap.size v2 _ rfl Hob2 Hbel2 Hbel2.out.size A c n bs rfl Hn (Hb.out.below (below_all HB1.out Hbel2.out)) (by have := Hll.out; simp; omega) ?_; intro v3 w3 Hob3 Hbel3 _))
  have HB3 := hid (below_all HB1.out Hbel3.out)
  have Hr3 := hid (Hr1.out.below Hbel3.out)
  obtain ⟨A3, c3, rfl, hc3, Hrd3⟩ := Hob3.out.readAt
  have hcc := refSum_at A3 _ c3 (([] ++ l4) ++ bs) w3 rfl (by have := Hll.out; have := Hn.out; simp; omega) Hrd3.out
  refine hcc.mono ?_; clear hcc
  rintro e w' ⟨rfl, rfl⟩
  have H3a : Hid (Below w3.heap.size w3 (w3.alloc (.cells #[] 5))) := (Below.refl _ _).alloc (Nat.le_refl _) _
  have Hr3a := hid (Hr3.out.below H3a.out)
  rw [List.nil_append]
  clear Hob3 Hrd3 Hbel2 Hob2 H1a Hr1a Hr1
  go_wp2_with (at_builtin; refine wpList_appB (w0 := w3) rfl (.tmp 20) (.tmp 21) rfl w3.heap.size _ [] rfl (OB_empty w3 _ (Nat.le_refl _)) H3a H3a.out.size (some ⟨g1, 0, none⟩) 4 4 l4 rfl Hll Hr3a (by simp) ?_; intro v4 w4 Hob4 Hbel4 _)
  refine (four_calls (Crc.sum (l4 ++ bs)) w4).mono ?_
  rintro e w5 ⟨g5, rfl, hO5, hB5⟩
  have Hr5 := hid (OB.readSame hO5); have HB5 := hid (below_all Hbel4.out hB5)
  have Hob5 := hid (Hob4.out.below hB5); clear hO5 hB5 Hob4
  obtain ⟨s4, hs4⟩ : ∃ s, s = Crc.le4 (Crc.sum (l4 ++ bs)) := ⟨_, rfl⟩
  rw [← hs4] at Hr5
  have Hs4 := hid hs4
  have hsl : s4.length = 4 := by rw [hs4]; exact Crc.le4_length _
  have Hsl := hid hsl.symm
  clear hs4 hsl
  have hs5 := HB5.out.size
  rw [List.nil_append] at Hob5
  go_wp2_with (at_builtin; first
    | (refine wpList_appB (w0 := w3) rfl (.tmp 23) (.tmp 25) rfl w3.heap.size v4 l4 rfl Hob5 HB5 hs5 (some ⟨g5, 0, none⟩) 4 4 s4 rfl Hsl Hr5 (by have := Hll.out; omega) ?_; intro v6 w6 Hob6 Hbel6 _)
    | (refine wpList_appB (w0 := w3) rfl (.tmp 27) (.tmp 28) rfl w3.heap.size v6 (l4 ++ s4) rfl Hob6 Hbel6 Hbel6.out.size A c n bs rfl Hn (Hb.out.below (below_all HB3.out Hbel6.out)) (by have := Hll.out; have := Hsl.out; rw [List.length_append]; omega) ?_; intro v7 w7 Hob7 Hbel7 _))
  go_ret2
  refine ⟨_, rfl, ?_, below_all HB3.out Hbel7.out⟩
  have := Hob7.out.base HB3.out.size
  rw [Hs4.out, Hl4.out, Hn.out] at this
  rw [frm_eq]
  exact this
end Go.Proofs.Ytjfggfmhchoobaa
