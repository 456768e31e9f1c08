/- The walk of the law CrcXor. -/
import Derived.Test.YtjfggfmhchoobaaCrcOpen
import Derived.Test.YtjfggfmhchoobaaOpen
namespace Go.Proofs.Ytjfggfmhchoobaa
open Go Go.RowKit
set_option linter.unusedSimpArgs false
set_option linter.unusedVariables false


theorem cell_below {w w1 : World} {a : Addr} {v : Value} (hb : Ext w w1) (h : w.cell? a = some v) : w1.cell? a = some v :=
  (hb.cell (p := a) (World.block_lt_of_cell? w a h)).trans h
theorem xor_bytes (a c : UInt8) : bits .xor .u8 (a.toNat : Int) (c.toNat : Int) = ((a ^^^ c).toNat : Int) := by
  rw [u8_xor_nat _ _ a.toNat_lt c.toNat_lt, UInt8.toNat_xor]
/-- A box of one byte. -/
def boxB (b : UInt8) : SPred := ⟨fun v w => ∃ A, v = .slice A 1 1 ∧ RB w A [b], fun _ _ _ ⟨A, e, h⟩ hE => ⟨A, e, h.below hE⟩⟩
/-- Two rows of the call's own, not in one block. -/
def TwoRows (v u : Value) : Prop := ∃ p q, v.ownBlock = some p ∧ u.ownBlock = some q ∧ p ≠ q
theorem two_rows {w0 W W' : World} {B : Nat} {vx vx' vy : Value} {xs ys : List UInt8} (hy : OB W B vy ys) (hd : TwoRows vx vy) (g : Grew w0 W W' B vx vx') : OB W' B vy ys ∧ TwoRows vx' vy := by
  obtain ⟨p, q, hp, hq, hne⟩ := hd
  have hlt := (World.ownsRow.lt hy q hq).2
  refine ⟨World.ownsRow.kept hy g.grown (.inr (by rw [hp, hq]; simpa using Ne.symm hne)), ?_⟩
  rcases g.at_ with h | h
  · exact ⟨p, q, h.trans hp, hq, hne⟩
  · exact ⟨_, q, h, hq, by omega⟩
theorem TwoRows.symm {v u : Value} (h : TwoRows v u) : TwoRows u v := let ⟨p, q, a, b, c⟩ := h; ⟨q, p, b, a, Ne.symm c⟩
/-- Bytes turned by bytes. -/
def turn (a d : List UInt8) (k : Nat) : List UInt8 := List.zipWith (· ^^^ ·) (a.take k) (d.take k)
theorem turn_succ {a d : List UInt8} {k : Nat} (h1 : k < a.length) (h2 : k < d.length) : turn a d (k + 1) = turn a d k ++ [a[k] ^^^ d[k]] := by
  unfold turn
  rw [List.take_succ_eq_append_getElem h1, List.take_succ_eq_append_getElem h2, List.zipWith_append (by simp; omega)]
  rfl
theorem turn_length {a d : List UInt8} {k : Nat} (h1 : k ≤ a.length) (h2 : k ≤ d.length) : (turn a d k).length = k := by
  simp [turn]; omega
theorem Crc.sum_turn (a d : List UInt8) (k : Nat) (h1 : k ≤ a.length) (h2 : k ≤ d.length) : Crc.sum (a.take k) ^^^ Crc.sum (turn a d k) = Crc.reg 0#32 (d.take k) := by
  have h := Crc.reg_xor (a.take k) (d.take k) Crc.ones 0#32 (by simp; omega)
  rw [BitVec.xor_zero] at h
  unfold Crc.sum turn
  rw [h, Crc.xor_swap, BitVec.xor_self, BitVec.xor_zero, ← BitVec.xor_assoc, BitVec.xor_self, BitVec.zero_xor]
theorem Crc.dif_int (u v : BitVec 32) : bits .xor .u32 (u.toNat : Int) (v.toNat : Int) = ((u ^^^ v).toNat : Int) := by
  rw [u32_xor_nat _ _ u.isLt v.isLt, BitVec.toNat_xor]

set_option maxRecDepth 100000 in
set_option maxHeartbeats 4000000 in
theorem crcXor_in (A1 : Option Addr) (n1 c1 : Nat) (b1 : List UInt8) (A2 : Option Addr) (n2 c2 : Nat) (b2 : List UInt8) (A3 : Option Addr) (n3 c3 : Nat) (b3 : List UInt8) (w : World) (i1 : InB w A1 n1 c1 b1) (i2 : InB w A2 n2 c2 b2) (i3 : InB w A3 n3 c3 b3) :
    Calls Try.prog 4 #[.slice A1 n1 c1, .slice A2 n2 c2, .slice A3 n3 c3] w fun e w' => e = .returned (.bool true) ∧ Below w.heap.size w w' := by
  have hz := zero_tab
  obtain ⟨m, hm⟩ : ∃ m : Nat, m = min (min (min n1 n2) n3) 200 := ⟨_, rfl⟩
  have hmin : ∀ (ts : Array TypeId) (t : TypeId) (w : World), (Builtin.min_ ts t #[.int .i64 (n1 : Int), .int .i64 (n2 : Int), .int .i64 (n3 : Int), .int .i64 200]).run Try.prog w = .ok (.int .i64 (m : Int)) w := by
    intro ts t w
    simp [Builtin.min_, Builtin.min2]
    repeat' split
    all_goals omega
  have hm1 : m ≤ n1 := by omega
  have hm2 : m ≤ n2 := by omega
  have hm3 : m ≤ n3 := by omega
  have hm200 : m ≤ 200 := by omega
  clear hm
  have Hn1 := hid i1.len; have Hn2 := hid i2.len; have Hn3 := hid i3.len
  have Hb1' := hid i1.read; have Hb2' := hid i2.read; have Hb3' := hid i3.read
  have hc1 := i1.cap; have hc2 := i2.cap; have hx1 := i1.max; have hx2 := i2.max; have hx3 := i3.max; have hc3 := i3.cap
  clear i1 i2 i3
  go_enter Try.func4, Try.ntmps4
  go_wp2_with fail
  refine (shown_calls _).mono ?_
  rintro e w1 ⟨rfl, hb1⟩
  have HB1 := hid hb1; clear hb1
  go_wp2_with fail
  -- t := crc.New() in a variable of its own: from w1 on
  refine (new_calls _).mono ?_
  rintro e w2 ⟨rfl, hb2⟩
  have HB2 := hid (below_then HB1.out HB1.out.size hb2); clear hb2 HB1
  go_wp2_with (refine wpList_store_tab (w := w2) rfl (.tmp 8) (.tmp 14) rfl rfl rfl ?_)
  have Ht := hid (TabAt.new w2)
  have HB3 := hid (below_tab HB2.out HB2.out.size)
  have hz3 : w.heap.size ≤ w2.heap.size := HB2.out.size
  have Hz3 := hid hz3; clear hz3 HB2
  generalize hw3 : w2.alloc (.cells (tabs 256) 27) = w3 at Ht HB3 ⊢
  have Hw3 := hid hw3; clear hw3
  go_wp2_with fail
  have hsz3 : w3.heap.size = w2.heap.size + 1 := by rw [← Hw3.out]; simp
  have H0 : Hid (OB ((w3.alloc (.cells #[] 5)).alloc (.cells #[] 5)) w3.heap.size (.slice (some ⟨w2.heap.size + 1, 0, none⟩) 0 0) []) := by
    have := (OB_empty w3 w3.heap.size (Nat.le_refl _)).below (w1 := (w3.alloc (.cells #[] 5)).alloc (.cells #[] 5)) ((Below.refl _ _).alloc (Nat.le_refl _) _)
    rw [hsz3] at this ⊢; exact this
  have H1 : Hid (OB ((w3.alloc (.cells #[] 5)).alloc (.cells #[] 5)) w3.heap.size (.slice (some ⟨w2.heap.size + 1 + 1, 0, none⟩) 0 0) []) := by
    have := OB_empty (w3.alloc (.cells #[] 5)) w3.heap.size (by simp)
    have e : (w3.alloc (.cells #[] 5)).heap.size = w2.heap.size + 1 + 1 := by simp [hsz3]
    rw [e] at this; exact this
  have H2 : Hid (Below w3.heap.size w3 ((w3.alloc (.cells #[] 5)).alloc (.cells #[] 5))) := ((Below.refl _ _).alloc (Nat.le_refl _) _).alloc (by simp) _
  have Hsz3 := hid hsz3; clear hsz3
  go_loopw [10, 11, 12] (fun vx vy i wr => ∃ k : Nat, k ≤ m ∧ i = .int .i64 k ∧ Hid (OB wr w3.heap.size vx (turn b1 b3 k)) ∧ Hid (OB wr w3.heap.size vy (turn b2 b3 k)) ∧ Hid (Below w3.heap.size w3 wr) ∧ Hid (TwoRows vx vy)) (fun _ _ i _ => m - (intOf i).toNat)
  case atStart => exact ⟨0, by omega, rfl, H0, H1, H2, ⟨_, _, rfl, rfl, by show w2.heap.size + 1 ≠ w2.heap.size + 1 + 1; omega⟩⟩
  case round =>
    obtain ⟨k, hk, rfl, HOx, HOy, HBr, HTw⟩ := hrel
    clear H0 H1 H2
    have HBw := hid (below_all HB3.out HBr.out)
    by_cases hlt : k < m
    · have hk1 : k < b1.length := by have := Hn1.out; omega
      have hk2 : k < b2.length := by have := Hn2.out; omega
      have hk3 : k < b3.length := by have := Hn3.out; omega
      have Hs1 := hid (turn_succ hk1 hk3)
      have Hs2 := hid (turn_succ hk2 hk3)
      obtain ⟨p1, o1, rfl, hc1⟩ := (Hb1'.out.below HB3.out).at_ k hk1
      obtain ⟨p2, o2, rfl, hc2⟩ := (Hb2'.out.below HB3.out).at_ k hk2
      obtain ⟨p3, o3, rfl, hc3⟩ := (Hb3'.out.below HB3.out).at_ k hk3
      generalize b1[k] = a at hc1 Hs1
      generalize b2[k] = b at hc2 Hs2
      generalize b3[k] = c at hc3 Hs1 Hs2
      have hc1 := cell_below HBr.out hc1
      have hc3r := cell_below HBr.out hc3
      have hi1 : (k : Int) < (n1 : Int) := by omega
      have hi2 : (k : Int) < (n2 : Int) := by omega
      have hi3 : (k : Int) < (n3 : Int) := by omega
      have hi0 : (0 : Int) ≤ (k : Int) := by omega
      go_wp2_with fail
      refine wp_drawn_last 11 [isV u10, isV (.slice (some ⟨p1, o1, none⟩) n1 c1), isV (.int .i64 (k : Int)), isV (.pointer (some ⟨p1, o1 + k, none⟩)), isV (.int .u8 (a.toNat : Int)), isV (.slice (some ⟨p3, o3, none⟩) n3 c3), isV (.int .i64 (k : Int)), isV (.pointer (some ⟨p3, o3 + k, none⟩)), isV (.int .u8 (c.toNat : Int)), isV (.int .u8 ((a ^^^ c).toNat : Int)), boxB (a ^^^ c)] (by decide) (by kernel_rfl) ?r9hok ?r9hcov ?r9steps ?r9fin
      case r9hok => kernel_rfl
      case r9hcov => kernel_rfl
      case r9steps =>
        refine ⟨?r9s0, ?r9s1, ?r9s2, ?r9s3, ?r9s4, ?r9s5, ?r9s6, ?r9s7, ?r9s8, ?r9s9, ?r9s10, trivial⟩
        case r9s4 =>
          intro v W hE hd; simp only [Region.wanted, ↓reduceIte]; (try simp [deps, waitsOn, Region.binds, knowing, isV, ownsV, anyV] at hd); simp only [putAll, List.take_succ_cons, List.take_zero, List.drop_succ_cons, List.drop_zero, Act.put, List.setIfInBounds_toArray, List.set_cons_zero, List.set_cons_succ, Nat.zero_add, Nat.reduceAdd]
          have e1 := cell_below hE hc1
          go_simp
          exact ⟨Below.refl _ _, rfl⟩
        case r9s8 =>
          intro v W hE hd; simp only [Region.wanted, ↓reduceIte]; (try simp [deps, waitsOn, Region.binds, knowing, isV, ownsV, anyV] at hd); simp only [putAll, List.take_succ_cons, List.take_zero, List.drop_succ_cons, List.drop_zero, Act.put, List.setIfInBounds_toArray, List.set_cons_zero, List.set_cons_succ, Nat.zero_add, Nat.reduceAdd]
          have e1 := cell_below hE hc3r
          go_simp
          exact ⟨Below.refl _ _, rfl⟩
        case r9s9 =>
          intro v W hE hd; simp only [Region.wanted, ↓reduceIte]; (try simp [deps, waitsOn, Region.binds, knowing, isV, ownsV, anyV] at hd); simp only [putAll, List.take_succ_cons, List.take_zero, List.drop_succ_cons, List.drop_zero, Act.put, List.setIfInBounds_toArray, List.set_cons_zero, List.set_cons_succ, Nat.zero_add, Nat.reduceAdd]
          have e1 := xor_bytes a c
          go_simp
          exact ⟨Below.refl _ _, rfl⟩
        case r9s10 =>
          intro v W hE hd; simp only [Region.wanted, ↓reduceIte]; (try simp [deps, waitsOn, Region.binds, knowing, isV, ownsV, anyV] at hd); simp only [putAll, List.take_succ_cons, List.take_zero, List.drop_succ_cons, List.drop_zero, Act.put, List.setIfInBounds_toArray, List.set_cons_zero, List.set_cons_succ, Nat.zero_add, Nat.reduceAdd]
          go_simp
          exact ⟨(Below.refl _ _).alloc (Nat.le_refl _) _, _, rfl, RB_box W #[_] [_] rfl⟩
        all_goals (intro v W hE hd; simp only [Region.wanted, ↓reduceIte]; (try simp [deps, waitsOn, Region.binds, knowing, isV, ownsV, anyV] at hd); simp only [putAll, List.take_succ_cons, List.take_zero, List.drop_succ_cons, List.drop_zero, Act.put, List.setIfInBounds_toArray, List.set_cons_zero, List.set_cons_succ, Nat.zero_add, Nat.reduceAdd]; go_simp; exact ⟨Below.refl _ _, rfl⟩)
      case r9fin =>
        rintro v W hE hall
        obtain ⟨h29, _, _, _, _, _, _, _, _, _, hall⟩ := hall
        obtain ⟨⟨A0, e10, hr0⟩, -⟩ := hall
        have e0 : v 0 = u10 := h29
        simp only [putAll, List.take_succ_cons, List.take_zero, List.drop_succ_cons, List.drop_zero, Act.put, List.setIfInBounds_toArray, List.set_cons_zero, List.set_cons_succ, Nat.zero_add, Nat.reduceAdd]
        rw [e0, e10]
        have hlen := turn_length (k := k) (a := b1) (d := b3) (by have := Hn1.out; omega) (by have := Hn3.out; omega)
        have hlen' := hid hlen; clear hlen
        go_wp2_with (at_builtin; refine wpList_appB (w0 := w3) rfl (.tmp 29) (.tmp 39) rfl w3.heap.size u10 (turn b1 b3 k) rfl (HOx.out.below hE) (below_then HBr.out HBr.out.size hE) (Nat.le_trans HBr.out.size hE.size) A0 1 1 [a ^^^ c] rfl rfl hr0 (by rw [hlen'.out]; omega) ?_; intro v1 w4 Hobx Hbelx Hgx)
        obtain ⟨hOy, hTw⟩ := two_rows (xs := turn b1 b3 k) (HOy.out.below hE) HTw.out Hgx.out
        have HOy' := hid hOy; have HTw' := hid hTw.symm; clear hOy hTw
        have hb4 : Below w3.heap.size w3 w4 := Hbelx.out
        have HBr' := hid hb4
        have hc2' := cell_below hb4 hc2
        have hc3' := cell_below hb4 hc3
        clear e0 e10 h29 hE hlen' hb4
        go_wp2_with fail
        refine wp_drawn_last 11 [isV u11, isV (.slice (some ⟨p2, o2, none⟩) n2 c2), isV (.int .i64 (k : Int)), isV (.pointer (some ⟨p2, o2 + k, none⟩)), isV (.int .u8 (b.toNat : Int)), isV (.slice (some ⟨p3, o3, none⟩) n3 c3), isV (.int .i64 (k : Int)), isV (.pointer (some ⟨p3, o3 + k, none⟩)), isV (.int .u8 (c.toNat : Int)), isV (.int .u8 ((b ^^^ c).toNat : Int)), boxB (b ^^^ c)] (by decide) (by kernel_rfl) ?r10hok ?r10hcov ?r10steps ?r10fin
        case r10hok => kernel_rfl
        case r10hcov => kernel_rfl
        case r10steps =>
          refine ⟨?r10s0, ?r10s1, ?r10s2, ?r10s3, ?r10s4, ?r10s5, ?r10s6, ?r10s7, ?r10s8, ?r10s9, ?r10s10, trivial⟩
          case r10s4 =>
            intro v W hE hd; simp only [Region.wanted, ↓reduceIte]; (try simp [deps, waitsOn, Region.binds, knowing, isV, ownsV, anyV] at hd); simp only [putAll, List.take_succ_cons, List.take_zero, List.drop_succ_cons, List.drop_zero, Act.put, List.setIfInBounds_toArray, List.set_cons_zero, List.set_cons_succ, Nat.zero_add, Nat.reduceAdd]
            have e1 := cell_below hE hc2'
            go_simp
            exact ⟨Below.refl _ _, rfl⟩
          case r10s8 =>
            intro v W hE hd; simp only [Region.wanted, ↓reduceIte]; (try simp [deps, waitsOn, Region.binds, knowing, isV, ownsV, anyV] at hd); simp only [putAll, List.take_succ_cons, List.take_zero, List.drop_succ_cons, List.drop_zero, Act.put, List.setIfInBounds_toArray, List.set_cons_zero, List.set_cons_succ, Nat.zero_add, Nat.reduceAdd]
            have e1 := cell_below hE hc3'
            go_simp
            exact ⟨Below.refl _ _, rfl⟩
          case r10s9 =>
            intro v W hE hd; simp only [Region.wanted, ↓reduceIte]; (try simp [deps, waitsOn, Region.binds, knowing, isV, ownsV, anyV] at hd); simp only [putAll, List.take_succ_cons, List.take_zero, List.drop_succ_cons, List.drop_zero, Act.put, List.setIfInBounds_toArray, List.set_cons_zero, List.set_cons_succ, Nat.zero_add, Nat.reduceAdd]
            have e1 := xor_bytes b c
            go_simp
            exact ⟨Below.refl _ _, rfl⟩
          case r10s10 =>
            intro v W hE hd; simp only [Region.wanted, ↓reduceIte]; (try simp [deps, waitsOn, Region.binds, knowing, isV, ownsV, anyV] at hd); simp only [putAll, List.take_succ_cons, List.take_zero, List.drop_succ_cons, List.drop_zero, Act.put, List.setIfInBounds_toArray, List.set_cons_zero, List.set_cons_succ, Nat.zero_add, Nat.reduceAdd]
            go_simp
            exact ⟨(Below.refl _ _).alloc (Nat.le_refl _) _, _, rfl, RB_box W #[_] [_] rfl⟩
          all_goals (intro v W hE hd; simp only [Region.wanted, ↓reduceIte]; (try simp [deps, waitsOn, Region.binds, knowing, isV, ownsV, anyV] at hd); simp only [putAll, List.take_succ_cons, List.take_zero, List.drop_succ_cons, List.drop_zero, Act.put, List.setIfInBounds_toArray, List.set_cons_zero, List.set_cons_succ, Nat.zero_add, Nat.reduceAdd]; go_simp; exact ⟨Below.refl _ _, rfl⟩)
        case r10fin =>
          rintro v W hE hall
          obtain ⟨h29, _, _, _, _, _, _, _, _, _, hall⟩ := hall
          obtain ⟨⟨A0, e10, hr0⟩, -⟩ := hall
          have e0 : v 0 = u11 := h29
          simp only [putAll, List.take_succ_cons, List.take_zero, List.drop_succ_cons, List.drop_zero, Act.put, List.setIfInBounds_toArray, List.set_cons_zero, List.set_cons_succ, Nat.zero_add, Nat.reduceAdd]
          rw [e0, e10]
          have hlen := turn_length (k := k) (a := b2) (d := b3) (by have := Hn2.out; omega) (by have := Hn3.out; omega)
          have hlen' := hid hlen; clear hlen
          go_wp2_with (at_builtin; refine wpList_appB (w0 := w3) rfl (.tmp 41) (.tmp 51) rfl w3.heap.size u11 (turn b2 b3 k) rfl (HOy'.out.below hE) (below_then HBr'.out HBr'.out.size hE) (Nat.le_trans HBr'.out.size hE.size) A0 1 1 [b ^^^ c] rfl rfl hr0 (by rw [hlen'.out]; omega) ?_; intro v2 w5 Hoby' Hbely' Hgy')
          obtain ⟨hOx, hTw⟩ := two_rows (xs := turn b2 b3 k) (Hobx.out.below hE) HTw'.out Hgy'.out
          have HOx' := hid hOx; have HTw'' := hid hTw.symm; clear hOx hTw e0 e10 h29 hE hlen'
          go_roundw
          case rel => exact ⟨k + 1, by omega, by go_num, by rw [Hs1.out]; exact HOx'.out, by rw [Hs2.out]; exact Hoby'.out, Hbely'.out, HTw''.out⟩
          case measure => simp [intOf]; omega
    · obtain rfl : k = m := by omega
      obtain ⟨x, hx⟩ : ∃ x, x = turn b1 b3 k := ⟨_, rfl⟩
      obtain ⟨y, hy⟩ : ∃ y, y = turn b2 b3 k := ⟨_, rfl⟩
      have hk1 : k ≤ b1.length := by have := Hn1.out; omega
      have hk2 : k ≤ b2.length := by have := Hn2.out; omega
      have hk3 : k ≤ b3.length := by have := Hn3.out; omega
      have hlx : x.length = k := by rw [hx]; exact turn_length hk1 hk3
      have hly : y.length = k := by rw [hy]; exact turn_length hk2 hk3
      obtain ⟨dif, hdif⟩ : ∃ dif : Nat, dif = (Crc.reg 0#32 (b3.take k)).toNat := ⟨_, rfl⟩
      have Hd1 : Hid (bits .xor .u32 ((Crc.sum (b1.take k)).toNat : Int) ((Crc.sum x).toNat : Int) = (dif : Int)) := by
        show bits .xor .u32 _ _ = _
        rw [Crc.dif_int, hx, Crc.sum_turn b1 b3 k hk1 hk3, hdif]
      have Hd2 : Hid (bits .xor .u32 ((Crc.sum (b2.take k)).toNat : Int) ((Crc.sum y).toNat : Int) = (dif : Int)) := by
        show bits .xor .u32 _ _ = _
        rw [Crc.dif_int, hy, Crc.sum_turn b2 b3 k hk2 hk3, hdif]
      rw [← hx] at HOx
      rw [← hy] at HOy
      obtain ⟨Ax, cx, rfl, -, Hrx⟩ := HOx.out.readAt
      obtain ⟨Ay, cy, rfl, -, Hry⟩ := HOy.out.readAt
      have Hl1 := hid (show k = (b1.take k).length by rw [List.length_take]; omega)
      have Hl2 := hid (show k = (b2.take k).length by rw [List.length_take]; omega)
      have Hlx := hid hlx.symm
      have hkc1 : k ≤ c1 := by omega
      have hkc2 : k ≤ c2 := by omega
      have Hly := hid hly.symm
      have Hb1 := hid (Hb1'.out.take k)
      have Hb2 := hid (Hb2'.out.take k)
      rw [hlx, hly]
      clear hx hy hlx hly hdif hk1 hk2 hk3 HOx HOy HTw
      go_wp2_with fail
      refine wp_drawn [isV (.bool true), isV (.bool true), isV (.slice A1 n1 c1), isV (.int .i64 (k : Int)), isV (.slice A1 k c1), isV (.int .u32 ((Crc.sum (b1.take k)).toNat : Int)), isV (.slice Ax k cx), isV (.int .u32 ((Crc.sum x).toNat : Int)), isV (.int .u32 (dif : Int)), isV (.slice A2 n2 c2), isV (.int .i64 (k : Int)), isV (.slice A2 k c2), isV (.int .u32 ((Crc.sum (b2.take k)).toNat : Int)), isV (.slice Ay k cy), isV (.int .u32 ((Crc.sum y).toNat : Int)), isV (.int .u32 (dif : Int)), isV (.bool true), isV (.bool true), isV (.bool true)] (by kernel_rfl) ?r11hok ?r11steps ?r11fin
      case r11hok => kernel_rfl
      case r11steps =>
        refine ⟨?r11s0, ?r11s1, ?r11s2, ?r11s3, ?r11s4, ?r11s5, ?r11s6, ?r11s7, ?r11s8, ?r11s9, ?r11s10, ?r11s11, ?r11s12, ?r11s13, ?r11s14, ?r11s15, ?r11s16, ?r11s17, ?r11s18, trivial⟩
        case r11s2 =>
          intro v W hE hd; (try simp [deps, waitsOn, Region.binds, knowing, isV, ownsV, anyV] at hd); simp only [putAll, List.take_succ_cons, List.take_zero, List.drop_succ_cons, List.drop_zero, Act.put, List.setIfInBounds_toArray, List.set_cons_zero, List.set_cons_succ, Nat.zero_add, Nat.reduceAdd]; rw [if_pos (by simp [Region.wanted, yielded, hd])]
          go_simp
          exact ⟨Below.refl _ _, rfl⟩
        case r11s3 =>
          intro v W hE hd; (try simp [deps, waitsOn, Region.binds, knowing, isV, ownsV, anyV] at hd); simp only [putAll, List.take_succ_cons, List.take_zero, List.drop_succ_cons, List.drop_zero, Act.put, List.setIfInBounds_toArray, List.set_cons_zero, List.set_cons_succ, Nat.zero_add, Nat.reduceAdd]; rw [if_pos (by simp [Region.wanted, yielded, hd])]
          go_simp
          exact ⟨Below.refl _ _, rfl⟩
        case r11s4 =>
          intro v W hE hd; (try simp [deps, waitsOn, Region.binds, knowing, isV, ownsV, anyV] at hd); simp only [putAll, List.take_succ_cons, List.take_zero, List.drop_succ_cons, List.drop_zero, Act.put, List.setIfInBounds_toArray, List.set_cons_zero, List.set_cons_succ, Nat.zero_add, Nat.reduceAdd]; rw [if_pos (by simp [Region.wanted, yielded, hd])]
          go_simp
          exact ⟨Below.refl _ _, rfl⟩
        case r11s5 =>
          intro v W hE hd; (try simp [deps, waitsOn, Region.binds, knowing, isV, ownsV, anyV] at hd); simp only [putAll, List.take_succ_cons, List.take_zero, List.drop_succ_cons, List.drop_zero, Act.put, List.setIfInBounds_toArray, List.set_cons_zero, List.set_cons_succ, Nat.zero_add, Nat.reduceAdd]; rw [if_pos (by simp [Region.wanted, yielded, hd])]
          go_simp
          have hcc := sum_at w2.heap.size A1 k c1 (b1.take k) W Hl1.out (by omega) (Ht.out.below (Ext.trans' HBr.out hE)) (Hb1.out.below (Ext.trans' HBw.out hE))
          refine hcc.mono ?_; clear hcc
          rintro e w' ⟨rfl, rfl⟩
          go_simp
          exact ⟨Below.refl _ _, rfl⟩
        case r11s6 =>
          intro v W hE hd; (try simp [deps, waitsOn, Region.binds, knowing, isV, ownsV, anyV] at hd); simp only [putAll, List.take_succ_cons, List.take_zero, List.drop_succ_cons, List.drop_zero, Act.put, List.setIfInBounds_toArray, List.set_cons_zero, List.set_cons_succ, Nat.zero_add, Nat.reduceAdd]; rw [if_pos (by simp [Region.wanted, yielded, hd])]
          go_simp
          exact ⟨Below.refl _ _, rfl⟩
        case r11s7 =>
          intro v W hE hd; (try simp [deps, waitsOn, Region.binds, knowing, isV, ownsV, anyV] at hd); simp only [putAll, List.take_succ_cons, List.take_zero, List.drop_succ_cons, List.drop_zero, Act.put, List.setIfInBounds_toArray, List.set_cons_zero, List.set_cons_succ, Nat.zero_add, Nat.reduceAdd]; rw [if_pos (by simp [Region.wanted, yielded, hd])]
          go_simp
          have hcc := sum_at w2.heap.size Ax k cx x W Hlx.out (by omega) (Ht.out.below (Ext.trans' HBr.out hE)) (Hrx.out.below hE)
          refine hcc.mono ?_; clear hcc
          rintro e w' ⟨rfl, rfl⟩
          go_simp
          exact ⟨Below.refl _ _, rfl⟩
        case r11s8 =>
          intro v W hE hd; (try simp [deps, waitsOn, Region.binds, knowing, isV, ownsV, anyV] at hd); simp only [putAll, List.take_succ_cons, List.take_zero, List.drop_succ_cons, List.drop_zero, Act.put, List.setIfInBounds_toArray, List.set_cons_zero, List.set_cons_succ, Nat.zero_add, Nat.reduceAdd]; rw [if_pos (by simp [Region.wanted, yielded, hd])]
          have e1 := Hd1.out
          go_simp
          exact ⟨Below.refl _ _, rfl⟩
        case r11s9 =>
          intro v W hE hd; (try simp [deps, waitsOn, Region.binds, knowing, isV, ownsV, anyV] at hd); simp only [putAll, List.take_succ_cons, List.take_zero, List.drop_succ_cons, List.drop_zero, Act.put, List.setIfInBounds_toArray, List.set_cons_zero, List.set_cons_succ, Nat.zero_add, Nat.reduceAdd]; rw [if_pos (by simp [Region.wanted, yielded, hd])]
          go_simp
          exact ⟨Below.refl _ _, rfl⟩
        case r11s10 =>
          intro v W hE hd; (try simp [deps, waitsOn, Region.binds, knowing, isV, ownsV, anyV] at hd); simp only [putAll, List.take_succ_cons, List.take_zero, List.drop_succ_cons, List.drop_zero, Act.put, List.setIfInBounds_toArray, List.set_cons_zero, List.set_cons_succ, Nat.zero_add, Nat.reduceAdd]; rw [if_pos (by simp [Region.wanted, yielded, hd])]
          go_simp
          exact ⟨Below.refl _ _, rfl⟩
        case r11s11 =>
          intro v W hE hd; (try simp [deps, waitsOn, Region.binds, knowing, isV, ownsV, anyV] at hd); simp only [putAll, List.take_succ_cons, List.take_zero, List.drop_succ_cons, List.drop_zero, Act.put, List.setIfInBounds_toArray, List.set_cons_zero, List.set_cons_succ, Nat.zero_add, Nat.reduceAdd]; rw [if_pos (by simp [Region.wanted, yielded, hd])]
          go_simp
          exact ⟨Below.refl _ _, rfl⟩
        case r11s12 =>
          intro v W hE hd; (try simp [deps, waitsOn, Region.binds, knowing, isV, ownsV, anyV] at hd); simp only [putAll, List.take_succ_cons, List.take_zero, List.drop_succ_cons, List.drop_zero, Act.put, List.setIfInBounds_toArray, List.set_cons_zero, List.set_cons_succ, Nat.zero_add, Nat.reduceAdd]; rw [if_pos (by simp [Region.wanted, yielded, hd])]
          go_simp
          have hcc := sum_at w2.heap.size A2 k c2 (b2.take k) W Hl2.out (by omega) (Ht.out.below (Ext.trans' HBr.out hE)) (Hb2.out.below (Ext.trans' HBw.out hE))
          refine hcc.mono ?_; clear hcc
          rintro e w' ⟨rfl, rfl⟩
          go_simp
          exact ⟨Below.refl _ _, rfl⟩
        case r11s13 =>
          intro v W hE hd; (try simp [deps, waitsOn, Region.binds, knowing, isV, ownsV, anyV] at hd); simp only [putAll, List.take_succ_cons, List.take_zero, List.drop_succ_cons, List.drop_zero, Act.put, List.setIfInBounds_toArray, List.set_cons_zero, List.set_cons_succ, Nat.zero_add, Nat.reduceAdd]; rw [if_pos (by simp [Region.wanted, yielded, hd])]
          go_simp
          exact ⟨Below.refl _ _, rfl⟩
        case r11s14 =>
          intro v W hE hd; (try simp [deps, waitsOn, Region.binds, knowing, isV, ownsV, anyV] at hd); simp only [putAll, List.take_succ_cons, List.take_zero, List.drop_succ_cons, List.drop_zero, Act.put, List.setIfInBounds_toArray, List.set_cons_zero, List.set_cons_succ, Nat.zero_add, Nat.reduceAdd]; rw [if_pos (by simp [Region.wanted, yielded, hd])]
          go_simp
          have hcc := sum_at w2.heap.size Ay k cy y W Hly.out (by omega) (Ht.out.below (Ext.trans' HBr.out hE)) (Hry.out.below hE)
          refine hcc.mono ?_; clear hcc
          rintro e w' ⟨rfl, rfl⟩
          go_simp
          exact ⟨Below.refl _ _, rfl⟩
        case r11s15 =>
          intro v W hE hd; (try simp [deps, waitsOn, Region.binds, knowing, isV, ownsV, anyV] at hd); simp only [putAll, List.take_succ_cons, List.take_zero, List.drop_succ_cons, List.drop_zero, Act.put, List.setIfInBounds_toArray, List.set_cons_zero, List.set_cons_succ, Nat.zero_add, Nat.reduceAdd]; rw [if_pos (by simp [Region.wanted, yielded, hd])]
          have e1 := Hd2.out
          go_simp
          exact ⟨Below.refl _ _, rfl⟩
        case r11s16 =>
          intro v W hE hd; (try simp [deps, waitsOn, Region.binds, knowing, isV, ownsV, anyV] at hd); simp only [putAll, List.take_succ_cons, List.take_zero, List.drop_succ_cons, List.drop_zero, Act.put, List.setIfInBounds_toArray, List.set_cons_zero, List.set_cons_succ, Nat.zero_add, Nat.reduceAdd]; rw [if_pos (by simp [Region.wanted, yielded, hd])]
          go_simp
          exact ⟨Below.refl _ _, rfl⟩
        case r11s17 =>
          intro v W hE hd; simp only [Region.wanted, ↓reduceIte]; (try simp [deps, waitsOn, Region.binds, knowing, isV, ownsV, anyV] at hd); simp only [putAll, List.take_succ_cons, List.take_zero, List.drop_succ_cons, List.drop_zero, Act.put, List.setIfInBounds_toArray, List.set_cons_zero, List.set_cons_succ, Nat.zero_add, Nat.reduceAdd]
          go_simp
          exact ⟨Below.refl _ _, rfl⟩
        all_goals (intro v W hE hd; simp only [Region.wanted, ↓reduceIte]; (try simp [deps, waitsOn, Region.binds, knowing, isV, ownsV, anyV] at hd); simp only [putAll, List.take_succ_cons, List.take_zero, List.drop_succ_cons, List.drop_zero, Act.put, List.setIfInBounds_toArray, List.set_cons_zero, List.set_cons_succ, Nat.zero_add, Nat.reduceAdd]; go_simp; exact ⟨Below.refl _ _, rfl⟩)
      case r11fin =>
        rintro v W hE hall
        have e18 : v 18 = .bool true := by
          obtain ⟨_, _, _, _, _, _, _, _, _, _, hall⟩ := hall
          obtain ⟨_, _, _, _, _, _, _, _, h, _⟩ := hall
          exact h
        simp only [putAll, List.take_succ_cons, List.take_zero, List.drop_succ_cons, List.drop_zero, Act.put, List.setIfInBounds_toArray, List.set_cons_zero, List.set_cons_succ, Nat.zero_add, Nat.reduceAdd]
        rw [e18]
        have HBf := hid (Ext.trans' HBw.out hE)
        clear hall hE e18
        go_wp2
        go_ret
        exact ⟨rfl, HBf.out⟩
end Go.Proofs.Ytjfggfmhchoobaa
