/- Several texts of this claim's, one behind the other. -/
import Derived.Test.YtakebdeldndaaaaGreatDoorNum
import Derived.Test.YtakebdeldndaaaaGreatDoorEvs
import Derived.Deep.DeepCutAuto
/- Numbers and texts taken from bytes. Plain. -/
namespace Go.Proofs.YtakebdeldndaaaaGreatDoor
open Go
set_option linter.unusedVariables false
def decV (i : Nat) : List UInt8 → Option (Nat × List UInt8)
 | [] => none
 | c :: r => if 10 ≤ i then none else if 128 ≤ c.toNat then (decV (i + 1) r).map fun x => (c.toNat % 128 + 128 * x.1, x.2) else if (c.toNat = 0 ∧ 0 < i) ∨ (i = 9 ∧ 1 < c.toNat) then none else some (c.toNat, r)
def unzig (u : Nat) : Int := if u % 2 = 0 then ((u / 2 : Nat) : Int) else -((u / 2 : Nat) : Int) - 1
theorem zig_unzig (u : Nat) : zig (unzig u) = u := by
 unfold unzig zig
 split <;> split <;> omega
theorem u8_back (c : UInt8) : UInt8.ofNat c.toNat = c := UInt8.ofNat_toNat
theorem pow_split {i : Nat} (h : i < 9) : 2 ^ (64 - 7 * i) = 128 * 2 ^ (64 - 7 * (i + 1)) := by
 have : 64 - 7 * i = (64 - 7 * (i + 1)) + 7 := by omega
 rw [this, Nat.pow_add, Nat.mul_comm]
theorem decV_inv : ∀ (bs : List UInt8) (i u : Nat) (r : List UInt8), decV i bs = some (u, r) → bs = varB u ++ r ∧ (0 < i → 0 < u) ∧ (i ≤ 9 → u < 2 ^ (64 - 7 * i))
 | [], i, u, r, h => by simp [decV] at h
 | c :: bs, i, u, r, h => by
  unfold decV at h
  have hc : c.toNat < 256 := UInt8.toNat_lt c
  split at h
  ·cases h
  rename_i h10
  split at h
  ·rename_i h128
   obtain ⟨x, hx, e⟩ := Option.map_eq_some_iff.1 h
   simp only [Prod.mk.injEq] at e
   obtain ⟨rfl, rfl⟩ := e
   obtain ⟨h1, h2, h3⟩ := decV_inv bs (i + 1) x.1 x.2 hx
   have h0 := h2 (by omega)
   refine ⟨?_, fun _ => by omega, fun hi => ?_⟩
   ·rw [varB_more (by omega), show (c.toNat % 128 + 128 * x.1) / 128 = x.1 by omega, show (c.toNat % 128 + 128 * x.1) % 128 + 128 = c.toNat by omega, u8_back, List.cons_append, ← h1]
   ·rcases Nat.lt_or_ge i 9 with h9 | h9
    ·have := h3 (by omega)
     have e := pow_split h9
     omega
    ·have : i = 9 := by omega
     subst this
     -- at nine there is no tenth
     exfalso
     have : decV 10 bs = none := by cases bs <;> simp [decV]
     rw [this] at hx; cases hx
  ·rename_i h128
   split at h
   ·cases h
   rename_i hno
   simp only [Option.some.injEq, Prod.mk.injEq] at h
   obtain ⟨rfl, rfl⟩ := h
   refine ⟨by rw [varB_one (by omega), u8_back]; rfl, fun hi => ?_, fun hi => ?_⟩
   ·rcases Nat.eq_zero_or_pos c.toNat with h0 | h0
    ·exact absurd (.inl ⟨h0, hi⟩) hno
    ·exact h0
   ·rcases Nat.lt_or_ge i 9 with h9 | h9
    ·have e := pow_split h9
     have : 0 < 2 ^ (64 - 7 * (i + 1)) := Nat.pos_of_ne_zero (by simp)
     omega
    ·have : i = 9 := by omega
     subst this
     show c.toNat < 2
     rcases Nat.lt_or_ge 1 c.toNat with h1 | h1
     ·exact absurd (.inr ⟨rfl, h1⟩) hno
     ·omega
def numO (bs : List UInt8) : Option (Int × List UInt8) := (decV 0 bs).map fun x => (unzig x.1, x.2)
def numS (bs : List UInt8) : Int × List UInt8 × Bool := match numO bs with
 | some x => (x.1, x.2, false)
 | none => (0, [], true)
theorem numO_inv {bs r : List UInt8} {x : Int} (h : numO bs = some (x, r)) : bs = encB x ++ r ∧ (-9223372036854775808 ≤ x ∧ x ≤ 9223372036854775807) := by
 obtain ⟨y, hy, e⟩ := Option.map_eq_some_iff.1 h
 simp only [Prod.mk.injEq] at e
 obtain ⟨rfl, rfl⟩ := e
 obtain ⟨h1, -, h3⟩ := decV_inv bs 0 y.1 y.2 hy
 have h4 : y.1 < 18446744073709551616 := h3 (by decide)
 refine ⟨by unfold encB; rw [zig_unzig]; exact h1, ?_⟩
 unfold unzig
 split <;> omega
def textO (bs : List UInt8) : Option (List UInt8 × List UInt8) := match numO bs with
 | some x => if 0 ≤ x.1 ∧ x.1 ≤ (x.2.length : Int) then some (x.2.take x.1.toNat, x.2.drop x.1.toNat) else none
 | none => none
def textS (bs : List UInt8) : List UInt8 × List UInt8 × Bool := match textO bs with
 | some x => (x.1, x.2, false)
 | none => ([], [], true)
theorem textO_inv {bs t r : List UInt8} (h : textO bs = some (t, r)) : bs = encT t ++ r := by
 unfold textO at h
 split at h
 ·rename_i x hx
  split at h
  ·rename_i hb
   simp only [Option.some.injEq, Prod.mk.injEq] at h
   obtain ⟨rfl, rfl⟩ := h
   obtain ⟨h1, -⟩ := numO_inv hx
   unfold encT
   rw [List.append_assoc, List.take_append_drop, List.length_take, show ((min x.1.toNat x.2.length : Nat) : Int) = x.1 by omega]
   exact h1
  ·cases h
 ·cases h
theorem numS_ok {bs r : List UInt8} {x : Int} (h : numS bs = (x, r, false)) : bs = encB x ++ r ∧ (-9223372036854775808 ≤ x ∧ x ≤ 9223372036854775807) := by
 unfold numS at h
 split at h
 ·rename_i y hy
  simp only [Prod.mk.injEq, and_true] at h
  obtain ⟨rfl, rfl⟩ := h
  exact numO_inv hy
 ·simp at h
theorem textS_ok {bs t r : List UInt8} (h : textS bs = (t, r, false)) : bs = encT t ++ r := by
 unfold textS at h
 split at h
 ·rename_i y hy
  simp only [Prod.mk.injEq, and_true] at h
  obtain ⟨rfl, rfl⟩ := h
  exact textO_inv hy
 ·simp at h
theorem numS_range (bs : List UInt8) : -9223372036854775808 ≤ (numS bs).1 ∧ (numS bs).1 ≤ 9223372036854775807 := by
 unfold numS
 split
 ·rename_i y hy; exact (numO_inv hy).2
 ·exact ⟨by decide, by decide⟩
theorem numS_len (bs : List UInt8) : (numS bs).2.1.length ≤ bs.length := by
 unfold numS
 split
 ·rename_i y hy
  have := congrArg List.length (numO_inv hy).1
  rw [List.length_append] at this
  dsimp only; omega
 ·exact Nat.zero_le _
theorem textS_len (bs : List UInt8) : (textS bs).2.1.length ≤ bs.length ∧ (textS bs).1.length ≤ bs.length := by
 unfold textS
 split
 ·rename_i y hy
  have := congrArg List.length (textO_inv hy)
  unfold encT at this
  rw [List.length_append, List.length_append] at this
  dsimp only; omega
 ·exact ⟨Nat.zero_le _, Nat.zero_le _⟩
theorem textS_lt {bs : List UInt8} (h : (textS bs).2.2 = false) : (textS bs).2.1.length < bs.length := by
 have := textS_ok (bs := bs) (t := (textS bs).1) (r := (textS bs).2.1) (by rw [← h])
 have h2 := congrArg List.length this
 unfold encT at h2
 have := varB_pos (zig ((textS bs).1.length : Int))
 rw [List.length_append, List.length_append] at h2
 unfold encB at h2
 omega
theorem numS_lt {bs : List UInt8} (h : (numS bs).2.2 = false) : (numS bs).2.1.length < bs.length := by
 have := (numS_ok (bs := bs) (x := (numS bs).1) (r := (numS bs).2.1) (by rw [← h])).1
 have h2 := congrArg List.length this
 unfold encB at h2
 have := varB_pos (zig (numS bs).1)
 rw [List.length_append] at h2
 omega
theorem decV_cons {i : Nat} {c : UInt8} {r : List UInt8} (h : i < 10) (hc : 128 ≤ c.toNat) : decV i (c :: r) = (decV (i + 1) r).map fun x => (c.toNat % 128 + 128 * x.1, x.2) := by
 conv => lhs; unfold decV
 rw [if_neg (by omega), if_pos hc]
theorem decV_last {i : Nat} {c : UInt8} {r : List UInt8} (h : i < 10) (hc : ¬ 128 ≤ c.toNat) : decV i (c :: r) = if (c.toNat = 0 ∧ 0 < i) ∨ (i = 9 ∧ 1 < c.toNat) then none else some (c.toNat, r) := by
 conv => lhs; unfold decV
 rw [if_neg (by omega), if_neg hc]
theorem decV_ten (bs : List UInt8) : decV 10 bs = none := by cases bs <;> simp [decV]
def decU (i u : Nat) (bs : List UInt8) : Option (Nat × List UInt8) := (decV i bs).map fun x => (u + 128 ^ i * x.1, x.2)
theorem decU_zero (bs : List UInt8) : decU 0 0 bs = decV 0 bs := by
 unfold decU
 cases decV 0 bs <;> simp
theorem decU_next {i u : Nat} {c : UInt8} {r : List UInt8} (h : i < 10) (hc : 128 ≤ c.toNat) : decU i u (c :: r) = decU (i + 1) (u + 128 ^ i * (c.toNat % 128)) r := by
 unfold decU
 rw [decV_cons h hc, Option.map_map]
 congr 1
 funext x
 simp only [Function.comp_apply, Prod.mk.injEq, and_true]
 rw [Nat.pow_succ, Nat.mul_add, Nat.mul_assoc, Nat.add_assoc]
theorem decU_last {i u : Nat} {c : UInt8} {r : List UInt8} (h : i < 10) (hc : ¬ 128 ≤ c.toNat) : decU i u (c :: r) = if (c.toNat = 0 ∧ 0 < i) ∨ (i = 9 ∧ 1 < c.toNat) then none else some (u + 128 ^ i * c.toNat, r) := by
 unfold decU
 rw [decV_last h hc]
 split <;> rfl
theorem decU_end {i u : Nat} {bs : List UInt8} (h : bs = [] ∨ i = 10) : decU i u bs = none := by
 unfold decU
 rcases h with rfl | rfl
 ·rfl
 ·rw [decV_ten]; rfl
end Go.Proofs.YtakebdeldndaaaaGreatDoor
/- What Num's operations on bits come to. Plain. -/
namespace Go.Proofs.YtakebdeldndaaaaGreatDoor
open Go Go.RowKit
set_option linter.unusedVariables false
set_option maxRecDepth 20000 in
theorem and_seven : ∀ a : Nat, a < 256 → a &&& (255 - 128) = a % 128 := by decide
theorem low_bits {c : Nat} (hc : c < 256) : bits .andNot .u8 (c : Int) 128 = ((c % 128 : Nat) : Int) := by
 rw [u8_andNot _ _ (by omega) (by omega) (by omega) (by omega), Int.toNat_natCast, show (128 : Int).toNat = 128 from rfl, and_seven c hc]
theorem pow128 (k : Nat) : (2 : Nat) ^ (7 * k) = 128 ^ k := by rw [Nat.pow_mul]
theorem or_add {a d k : Nat} (h : a < 128 ^ k) : a ||| (128 ^ k * d) = a + 128 ^ k * d := by
 rw [← pow128] at h ⊢
 have := Nat.two_pow_add_eq_or_of_lt h d
 rw [Nat.or_comm, ← this, Nat.add_comm]
theorem acc_bits {x : Int} {acc k c : Nat} (hk : k ≤ 9) (hx : x = (acc : Int)) (ha : acc < 128 ^ k) (hc : c < 256) (hr : 0 ≤ x ∧ x < 18446744073709551616) :
  ∃ y : Int, bits .or .u64 x (IntKind.u64.wrap (IntKind.u64.wrap (bits .andNot .u8 (c : Int) 128) * 2 ^ (7 * k))) = y ∧ (0 ≤ y ∧ y < 18446744073709551616) ∧ (k ≤ 8 ∨ c % 128 ≤ 1 → y = ((acc + 128 ^ k * (c % 128) : Nat) : Int)) := by
 subst hx
 rw [low_bits hc]
 have hw : ∀ a : Int, IntKind.u64.wrap a = a % 18446744073709551616 := fun a => IntKind.wrap_u64 a
 have e1 : IntKind.u64.wrap ((c % 128 : Nat) : Int) = ((c % 128 : Nat) : Int) := by rw [hw]; omega
 have e2 : IntKind.u64.wrap (((c % 128 : Nat) : Int) * 2 ^ (7 * k)) = (((128 ^ k * (c % 128)) % 18446744073709551616 : Nat) : Int) := by
  rw [hw, ← pow128]
  generalize c % 128 = d
  rw [Int.natCast_emod, Int.natCast_mul, Int.natCast_pow, Int.mul_comm]
  rfl
 rw [e1, e2, u64_or_nat acc _ (by omega) (by omega)]
 have hlt : acc ||| (128 ^ k * (c % 128)) % 18446744073709551616 < 2 ^ 64 := Nat.or_lt_two_pow (by omega) (by omega)
 refine ⟨_, rfl, ⟨by omega, by omega⟩, fun h => ?_⟩
 have hsmall : 128 ^ k * (c % 128) < 18446744073709551616 := by
  rcases h with h | h
  ·have h1 : 128 ^ k ≤ 128 ^ 8 := Nat.pow_le_pow_right (by decide) h
   have h2 : 128 ^ k * (c % 128) ≤ 128 ^ 8 * 127 := Nat.mul_le_mul h1 (by omega)
   have h3 : (128 : Nat) ^ 8 * 127 < 18446744073709551616 := by decide
   omega
  ·have h1 : 128 ^ k ≤ 128 ^ 9 := Nat.pow_le_pow_right (by decide) hk
   have h2 : 128 ^ k * (c % 128) ≤ 128 ^ 9 * 1 := Nat.mul_le_mul h1 h
   have h3 : (128 : Nat) ^ 9 * 1 < 18446744073709551616 := by decide
   omega
 rw [Nat.mod_eq_of_lt hsmall, or_add ha]
theorem acc_next {acc k d : Nat} (ha : acc < 128 ^ k) (hd : d < 128) : acc + 128 ^ k * d < 128 ^ (k + 1) := by
 rw [Nat.pow_succ]
 have : 128 ^ k * d + 128 ^ k ≤ 128 ^ k * 128 := by rw [← Nat.mul_succ]; exact Nat.mul_le_mul_left _ hd
 omega
theorem and_one (u : Nat) : u &&& 1 = u % 2 := Nat.and_one_is_mod u
theorem back_bits {u : Nat} (hu : u < 18446744073709551616) : bits .xor .i64 (IntKind.i64.wrap ((u : Int) / 2)) (IntKind.i64.wrap (-IntKind.i64.wrap (bits .and .u64 (u : Int) 1))) = unzig u := by
 have ha : bits .and .u64 (u : Int) 1 = ((u % 2 : Nat) : Int) := by
  rw [u64_and _ _ (by omega) (by omega) (by omega) (by omega), Int.toNat_natCast, show (1 : Int).toNat = 1 from rfl, and_one]
 have hw : ∀ a : Int, IntKind.i64.wrap a = (a + 9223372036854775808) % 18446744073709551616 - 9223372036854775808 := fun a => IntKind.wrap_i64 a
 have e1 : IntKind.i64.wrap ((u : Int) / 2) = ((u / 2 : Nat) : Int) := by rw [hw]; omega
 rw [ha, e1]
 unfold unzig
 have ho : (BitVec.ofInt 64 ((u / 2 : Nat) : Int)).toNat = u / 2 := by rw [BitVec.toNat_ofInt]; omega
 by_cases h : u % 2 = 0
 ·rw [if_pos h, h, show IntKind.i64.wrap (-IntKind.i64.wrap ((0 : Nat) : Int)) = 0 by decide]
  show IntKind.i64.wrap ((BitVec.ofInt 64 ((u / 2 : Nat) : Int) ^^^ BitVec.ofInt 64 0).toNat : Int) = _
  rw [show BitVec.ofInt 64 0 = 0#64 by decide, BitVec.xor_zero, ho, hw]
  omega
 ·have h1 : u % 2 = 1 := by omega
  rw [if_neg h, h1, show IntKind.i64.wrap (-IntKind.i64.wrap ((1 : Nat) : Int)) = -1 by decide]
  show IntKind.i64.wrap ((BitVec.ofInt 64 ((u / 2 : Nat) : Int) ^^^ BitVec.ofInt 64 (-1)).toNat : Int) = _
  rw [show BitVec.ofInt 64 (-1) = BitVec.allOnes 64 by decide, BitVec.xor_allOnes, BitVec.toNat_not, ho, hw]
  omega
end Go.Proofs.YtakebdeldndaaaaGreatDoor
/- num.Reader: Num, Text, fail, Left, Bad, NewReader. -/
namespace Go.Proofs.YtakebdeldndaaaaGreatDoor
open Go Go.RowKit
set_option linter.unusedSimpArgs false
set_option linter.unusedVariables false
structure RdIs (w : World) (S : Nat → Prop) (r : Nat) (bs : List UInt8) (bad : Bool) : Prop where
 row : ∃ A c, w.heap[r]? = some (.cells #[.slice A bs.length c, .bool bad] 179) ∧ SlR Rep.u8 w (Out S w) A bs.length c bs
 own : S r
section
variable {w w' : World} {S S' : Nat → Prop} {r : Nat} {bs : List UInt8} {bad : Bool}
theorem RdIs.lt (h : RdIs w S r bs bad) : r < w.heap.size := by
 obtain ⟨A, c, h1, -⟩ := h.row
 exact (Array.getElem?_eq_some_iff.1 h1).1
theorem RdIs.more (h : RdIs w S r bs bad) (hE : Ext w w') (hS : ∀ k, S' k → S k ∨ w.heap.size ≤ k) (hr : S' r) : RdIs w' S' r bs bad := by
 obtain ⟨A, c, h1, h2⟩ := h.row
 exact ⟨⟨A, c, (hE.block r h.lt).trans h1, slR_more h2 hE hS⟩, hr⟩
theorem RdIs.ext (h : RdIs w S r bs bad) (hE : Ext w w') : RdIs w' S r bs bad := h.more hE (fun _ hk => .inl hk) h.own
theorem RdIs.kept {a b : Nat} (h : RdIs w S r bs bad) (hk : Kept2 a b w w') (ha : S a) (hb : S b) (h1 : r ≠ a) (h2 : r ≠ b) : RdIs w' S r bs bad := by
 obtain ⟨A, c, g1, g2⟩ := h.row
 exact ⟨⟨A, c, (hk.block r h.lt h1 h2).trans g1, slR_kept g2 hk ha hb⟩, h.own⟩
end
theorem slR_rb {w : World} {K : Nat → Prop} {A : Option Addr} {n c : Nat} {bs : List UInt8} (h : SlR Rep.u8 w K A n c bs) : RB w A bs := by
 obtain ⟨-, -, -, cs, hr, hv⟩ := h
 rw [rows_u8_eq hr] at hv
 rcases hv with hv | ⟨b, o, e, -, hv⟩
 ·exact .inl hv
 ·exact .inr ⟨b, o, e, hv⟩
theorem slice_fromK {A : Option Addr} {n c : Nat} {bs : List UInt8} {w : World} {K : Nat → Prop} (h : SlR Rep.u8 w K A n c bs) (k : Nat) (hk : k ≤ n) :
  ∃ A', SlR Rep.u8 w K A' (n - k) (c - k) (bs.drop k) ∧ ∀ w', (Instr.sliceAt 23 (.slice A n c) (some (.int .i64 (k : Int))) none none).run Tryz.prog w' = .ok (.slice A' (n - k) (c - k)) w' := by
 obtain ⟨hn, hc, hm, cs, hr, hv⟩ := h
 have hel : Tryz.prog.elem 23 = 5 := by kernel_rfl
 have ht : Tryz.prog.underlying 23 = some (.slice (Tryz.prog.elem 23)) := by rw [hel]; exact Tryz.underlying23
 have hsz : ∀ w, (sizeOf 5).run Tryz.prog w = .ok 1 w := fun w => by go_simp
 have hrun : ∀ w', (Instr.sliceAt 23 (.slice A n c) (some (.int .i64 (k : Int))) none none).run Tryz.prog w' = .ok (sliced A k n c 1) w' := by
  intro w'
  rw [run_sliceAt_slice (h := ht), run_slice_l (ht := ht) (h0 := by omega) (h1 := by omega), hel, hsz, Int.toNat_natCast]
  rfl
 have hlen := hr.len
 rw [show Rep.u8.size = 1 from rfl, Nat.mul_one] at hlen
 unfold sliced at hrun
 have hnil : n ≤ k → ∀ A', SlR Rep.u8 w K A' (n - k) (c - k) (bs.drop k) := fun hnk A' => ⟨by rw [List.length_drop]; omega, by omega, by omega, [], by rw [List.drop_eq_nil_of_le (by omega)]; rfl, .inl rfl⟩
 by_cases he : c = k
 ·rw [if_pos he] at hrun
  exact ⟨A, hnil (by omega) A, hrun⟩
 ·rw [if_neg he] at hrun
  by_cases h0 : k < n
  ·rcases hv with hv | ⟨b, o, rfl, hb, hv⟩
   ·rw [hv] at hlen; simp at hlen; omega
   ·refine ⟨_, ?_, hrun⟩
    have h1 := slR_drop ⟨hn, hc, hm, cs, hr, .inr ⟨b, o, rfl, hb, hv⟩⟩ k hk
    rw [show Rep.u8.size = 1 from rfl] at h1
    rw [Nat.mul_one] at h1
    by_cases hk0 : k = 0
    ·subst hk0; simpa [Addr.add] using h1
    ·simpa [Addr.add, hk0] using h1
  ·exact ⟨_, hnil (by omega) _, hrun⟩
structure NumIs (w : World) (S : Nat → Prop) (r : Nat) (bs : List UInt8) (bad : Bool) (e : Ending) (w' : World) : Prop where
 ans : e = .returned (.int .i64 (numS bs).1)
 rd : RdIs w' S r (numS bs).2.1 (bad || (numS bs).2.2)
 kept : Kept2 r r w w'
theorem rdFail_at {w : World} {S : Nat → Prop} {r : Nat} {bs : List UInt8} {bad : Bool} (h : RdIs w S r bs bad) :
  Calls Tryz.prog 118 #[.pointer (some ⟨r, 0, none⟩)] w fun e w' => (∃ v, e = .returned v) ∧ RdIs w' S r [] true ∧ Kept2 r r w w' := by
 obtain ⟨A, c, h1, h2⟩ := h.row
 have g0 : w.frozen? ⟨r, 0, none⟩ = false := by simp [World.frozen?, h1]
 have c0 : w.cell? ⟨r, 0, none⟩ = some (.slice A bs.length c) := by rw [cell_of_row _ _ _ _ _ _ h1]; rfl
 have h3 := heap_setCell_row (o := 0) h1 (.slice none 0 0)
 have g1 : (w.setCell ⟨r, 0, none⟩ (.slice none 0 0)).frozen? ⟨r, 1, none⟩ = false := by simp [World.frozen?, h3]
 have c1 : (w.setCell ⟨r, 0, none⟩ (.slice none 0 0)).cell? ⟨r, 1, none⟩ = some (.bool bad) := by rw [cell_of_row _ _ _ _ _ _ h3]; rfl
 have h4 := heap_setCell_row (o := 1) h3 (.bool true)
 have HK := hid (show Kept2 r r w ((w.setCell ⟨r, 0, none⟩ (.slice none 0 0)).setCell ⟨r, 1, none⟩ (.bool true)) from
  (⟨rfl, rfl, rfl, by simp, fun k hk e _ => heap_setCell_other w ⟨r, 0, none⟩ k _ (fun h => e h)⟩ : Kept2 r r w (w.setCell ⟨r, 0, none⟩ (.slice none 0 0))).trans
   ⟨rfl, rfl, rfl, by simp, fun k hk e _ => heap_setCell_other _ ⟨r, 1, none⟩ k _ (fun h => e h)⟩)
 have HR := hid (show RdIs ((w.setCell ⟨r, 0, none⟩ (.slice none 0 0)).setCell ⟨r, 1, none⟩ (.bool true)) S r [] true from ⟨⟨none, 0, h4, slR_nil _ _⟩, h.own⟩)
 clear h h2 h3 h4 h1
 go_enter Tryz.func118, Tryz.ntmps118
 go_wp2
 go_end0
 exact ⟨⟨_, rfl⟩, HR.out, HK.out⟩
set_option maxRecDepth 100000 in
set_option maxHeartbeats 4000000 in
theorem rdNum_at {w : World} {S : Nat → Prop} {r : Nat} {bs : List UInt8} {bad : Bool} (h : RdIs w S r bs bad) :
  Calls Tryz.prog 77 #[.pointer (some ⟨r, 0, none⟩)] w fun e w' => NumIs w S r bs bad e w' := by
 obtain ⟨A, c, h1, h2⟩ := h.row
 have c0 : w.cell? ⟨r, 0, none⟩ = some (.slice A bs.length c) := by rw [cell_of_row _ _ _ _ _ _ h1]; rfl
 have hnc := h2.2.1
 have hcm := h2.2.2.1
 have H := hid h; have H2 := hid h2
 have Hrow := hid h1
 clear h h1 h2
 generalize hn : bs.length = n at *
 have Hn := hid hn
 clear hn
 go_enter Tryz.func77, Tryz.ntmps77
 have hmin : min (10 : Int) (n : Int) = ((min 10 n : Nat) : Int) := by omega
 go_wp2_with fail
 go_loopw [3, 12] (fun u i wr => ∃ (k : Nat) (x : Int) (acc : Nat), k ≤ 10 ∧ k ≤ n ∧ i = .int .i64 (k : Int) ∧ u = .int .u64 x ∧ Hid (decV 0 bs = decU k acc (bs.drop k)) ∧ Hid (k ≤ 9 → x = (acc : Int) ∧ acc < 128 ^ k) ∧ (0 ≤ x ∧ x < 18446744073709551616) ∧ Hid (wr = w)) (fun _ i _ => n - (intOf i).toNat)
 case atStart => exact ⟨0, 0, 0, by omega, by omega, rfl, rfl, hid (by rw [decU_zero]; rfl), hid (fun _ => ⟨rfl, by decide⟩), by omega, hid rfl⟩
 case round =>
  obtain ⟨k, x, acc, hk10, hkn, rfl, rfl, HD, HX, hx, hw⟩ := hrel
  obtain rfl := hw.out
  clear hw
  by_cases hlt : k < min 10 n
  ·have hlt' : (k : Int) < ((min 10 n : Nat) : Int) := by omega
   have hkx : k < bs.length := by have := Hn.out; omega
   have hk00 : ¬ ((k : Int) < 0) := by omega
   have hk0 : (0 : Int) ≤ (k : Int) := by omega
   have hltn : (k : Int) < (n : Int) := by omega
   obtain ⟨b, o, d, rfl, hbk, hd, hg⟩ := H2.out.get (by decide) k hkx
   have e1 : d = [bv bs[k]] := hd
   subst e1
   have g0 := hg 0 _ rfl
   rw [show Rep.u8.size = 1 from rfl, Nat.mul_one, Nat.add_zero] at g0
   have Hdr := hid (show bs.drop k = bs[k] :: bs.drop (k + 1) from List.drop_eq_getElem_cons hkx)
   generalize bs[k] = ch at *
   have hch : ch.toNat < 256 := UInt8.toNat_lt ch
   unfold bv at g0
   obtain ⟨y, hy, hyr, hye⟩ : ∃ y : Int, bits .or .u64 x (IntKind.u64.wrap (IntKind.u64.wrap (bits .andNot .u8 (ch.toNat : Int) 128) * 2 ^ (7 * k))) = y ∧ (0 ≤ y ∧ y < 18446744073709551616) ∧ (k ≤ 8 ∨ ch.toNat % 128 ≤ 1 → y = ((acc + 128 ^ k * (ch.toNat % 128) : Nat) : Int)) := acc_bits (by omega) (HX.out (by omega)).1 (HX.out (by omega)).2 hch hx
   have Hy := hid hy
   have Hye := hid hye
   have Ha := hid (HX.out (by omega)).2
   clear hy hye HX
   by_cases h128 : 128 ≤ ch.toNat
   ·have hi128 : (128 : Int) ≤ (ch.toNat : Int) := by omega
    have HD2 := hid (show decV 0 bs = decU (k + 1) (acc + 128 ^ k * (ch.toNat % 128)) (bs.drop (k + 1)) by rw [HD.out, Hdr.out, decU_next (by omega) h128])
    have HX2 := hid (show k + 1 ≤ 9 → y = ((acc + 128 ^ k * (ch.toNat % 128) : Nat) : Int) ∧ acc + 128 ^ k * (ch.toNat % 128) < 128 ^ (k + 1) from fun h => ⟨Hye.out (.inl (by omega)), acc_next Ha.out (by omega)⟩)
    go_wp2_with fail
    go_roundw
    case rel => exact ⟨k + 1, y, _, by omega, by omega, by go_num, by rw [Hy.out], HD2, HX2, hyr, hid trivial⟩
    case measure => simp [intOf]; omega
   ·have hi128 : ¬ ((128 : Int) ≤ (ch.toNat : Int)) := by omega
    have HL := hid (show decV 0 bs = if (ch.toNat = 0 ∧ 0 < k) ∨ (k = 9 ∧ 1 < ch.toNat) then none else some (acc + 128 ^ k * ch.toNat, bs.drop (k + 1)) by rw [HD.out, Hdr.out, decU_last (by omega) h128])
    clear Hdr
    generalize ch.toNat = cn at *
    have hy := Hy.out
    go_upto_region 8 with (fail)
    clear hy
    go_cut [45] (fun z wx => z = .bool (decide ((cn = 0 ∧ 0 < k) ∨ (k = 9 ∧ 1 < cn))) ∧ Hid (wx = wr))
    case first =>
     clear Hy Hye HL g0
     by_cases h0 : cn = 0
     ·by_cases hkp : 0 < k
      ·have hkp' : (0 : Int) < (k : Int) := by omega
       have h0b : ((cn : Int) == 0) = true := by rw [beq_iff_eq]; omega
       have hd := hid (show decide ((cn = 0 ∧ 0 < k) ∨ (k = 9 ∧ 1 < cn)) = true from decide_eq_true (by omega))
       clear h0 hkp
       go_wp2_with fail
       go_meet
       case rel => exact ⟨by rw [hd.out], hid rfl⟩
      ·obtain rfl : k = 0 := by omega
       subst h0
       have hd := hid (show decide (((0 : Nat) = 0 ∧ 0 < 0) ∨ ((0 : Nat) = 9 ∧ 1 < 0)) = false from by decide)
       clear hkp
       go_wp2_with fail
       go_meet
       case rel => exact ⟨by rw [hd.out], hid rfl⟩
     ·have h0' : ¬ ((cn : Int) = 0) := by omega
      have h0b : ((cn : Int) == 0) = false := beq_eq_false_iff_ne.2 h0'
      by_cases h9 : k = 9
      ·have h9b : ((k : Int) == 9) = true := by rw [beq_iff_eq]; omega
       by_cases h1 : 1 < cn
       ·have h1' : (1 : Int) < (cn : Int) := by omega
        have hd := hid (show decide ((cn = 0 ∧ 0 < k) ∨ (k = 9 ∧ 1 < cn)) = true from decide_eq_true (by omega))
        clear h0 h9 h1
        go_wp2_with fail
        go_meet
        case rel => exact ⟨by rw [hd.out], hid rfl⟩
       ·have h1' : ¬ ((1 : Int) < (cn : Int)) := by omega
        have hd := hid (show decide ((cn = 0 ∧ 0 < k) ∨ (k = 9 ∧ 1 < cn)) = false from decide_eq_false (by omega))
        clear h0 h9 h1
        go_wp2_with fail
        go_meet
        case rel => exact ⟨by rw [hd.out], hid rfl⟩
      ·have h9' : ¬ ((k : Int) = 9) := by omega
       have h9b : ((k : Int) == 9) = false := beq_eq_false_iff_ne.2 h9'
       have hd := hid (show decide ((cn = 0 ∧ 0 < k) ∨ (k = 9 ∧ 1 < cn)) = false from decide_eq_false (by omega))
       clear h0 h9
       go_wp2_with fail
       go_meet
       case rel => exact ⟨by rw [hd.out], hid rfl⟩
    case rest =>
    obtain ⟨rfl, hw⟩ := hcut
    obtain rfl := hw.out.symm
    clear hw
    by_cases hbad : (cn = 0 ∧ 0 < k) ∨ (k = 9 ∧ 1 < cn)
    ·have HL := hid (show decV 0 bs = none by rw [HL.out, if_pos hbad])
     rw [decide_eq_true hbad]
     clear hbad Hy Hye
     have hns : numS bs = (0, [], true) := by unfold numS numO; rw [HL.out]; rfl
     have Hpost := hid (show ∀ w', RdIs w' S r [] true → Kept2 r r wr w' → NumIs wr S r bs bad (.returned (.int .i64 0)) w' from fun w' h1 h2 => ⟨by rw [hns], by rw [hns]; cases bad <;> exact h1, h2⟩)
     clear hns
     have hcc := rdFail_at H.out
     go_wp2_with fail
     refine hcc.mono ?_
     clear hcc
     rintro e w1 ⟨⟨v, rfl⟩, hR, hK⟩
     have HR := hid hR; have HK := hid hK
     clear hR hK
     go_wp2
     go_ret
     exact Hpost.out _ HR.out HK.out
    ·have hyv := Hye.out (by omega)
     rw [show cn % 128 = cn by omega] at hyv
     have HLy := hid (show decV 0 bs = some (acc + 128 ^ k * cn, bs.drop (k + 1)) by rw [HL.out, if_neg hbad])
     rw [decide_eq_false hbad]
     obtain ⟨U, hU⟩ : ∃ U : Nat, U = acc + 128 ^ k * cn := ⟨_, rfl⟩
     rw [← hU] at hyv HLy
     subst hyv
     clear hU hbad
     have hy := Hy.out
     have hbk := back_bits (u := U) (by omega)
     rw [show IntKind.i64.wrap ((U : Int) / 2) = (U : Int) / 2 by rw [IntKind.wrap_i64]; omega] at hbk
     have hbk2 : bits .xor .i64 ((U : Int) / 2) (wrap64 (-wrap64 (bits .and .u64 (U : Int) 1))) = unzig U := by rw [← IntWalk.i64_left, ← IntWalk.i64_left]; exact hbk
     clear hbk
     obtain ⟨A', hA', hq⟩ := slice_fromK H2.out (k + 1) (by omega)
     have hs1 : ((k + 1 : Nat) : Int) = (k : Int) + 1 := by omega
     rw [hs1] at hq
     clear hs1
     have hwk : IntKind.i64.wrap ((k : Int) + 1) = (k : Int) + 1 := by rw [IntKind.wrap_i64]; omega
     have g1 : wr.frozen? ⟨r, 0, none⟩ = false := by simp [World.frozen?, Hrow.out]
     have HA' := hid hA'
     clear hA' Hye g0
     go_wp2_with fail
     go_ret
     have hns : numS bs = (unzig U, bs.drop (k + 1), false) := by unfold numS numO; rw [HLy.out]; rfl
     have hkp : Kept2 r r wr (wr.setCell ⟨r, 0, none⟩ (.slice A' (n - (k + 1)) (c - (k + 1)))) := ⟨rfl, rfl, rfl, by simp, fun j hj h1 _ => heap_setCell_other wr ⟨r, 0, none⟩ j _ (fun e => h1 e)⟩
     have hl : (bs.drop (k + 1)).length = n - (k + 1) := by rw [List.length_drop]; have := Hn.out; omega
     refine ⟨by rw [hns]; rfl, by rw [hns, Bool.or_false]; exact ⟨⟨A', _, by rw [hl]; exact heap_setCell_row Hrow.out _, by rw [hl]; exact slR_kept HA'.out hkp H.out.own H.out.own⟩, H.out.own⟩, hkp⟩
  ·have hlt' : ¬ ((k : Int) < ((min 10 n : Nat) : Int)) := by omega
   have HL := hid (show decV 0 bs = none by rw [HD.out, decU_end]; rcases Nat.lt_or_ge k 10 with h | h; exact .inl (List.drop_eq_nil_of_le (by have := Hn.out; omega)); exact .inr (by omega))
   have hns : numS bs = (0, [], true) := by unfold numS numO; rw [HL.out]; rfl
   have Hpost := hid (show ∀ w', RdIs w' S r [] true → Kept2 r r wr w' → NumIs wr S r bs bad (.returned (.int .i64 0)) w' from fun w' h1 h2 => ⟨by rw [hns], by rw [hns]; cases bad <;> exact h1, h2⟩)
   clear hns
   have hcc := rdFail_at H.out
   go_wp2_with fail
   refine hcc.mono ?_
   clear hcc
   rintro e w1 ⟨⟨v, rfl⟩, hR, hK⟩
   have HR := hid hR; have HK := hid hK
   clear hR hK
   go_wp2
   go_ret
   exact Hpost.out _ HR.out HK.out
end Go.Proofs.YtakebdeldndaaaaGreatDoor
/- num.Reader: Text, Left, Bad, NewReader. -/
namespace Go.Proofs.YtakebdeldndaaaaGreatDoor
open Go Go.RowKit
set_option linter.unusedSimpArgs false
set_option linter.unusedVariables false
theorem rdLeft_at {w : World} {S : Nat → Prop} {r : Nat} {bs : List UInt8} {bad : Bool} (h : RdIs w S r bs bad) :
  Calls Tryz.prog 81 #[.pointer (some ⟨r, 0, none⟩)] w fun e w' => e = .returned (.int .i64 (bs.length : Int)) ∧ w' = w := by
 obtain ⟨A, c, h1, h2⟩ := h.row
 have c0 : w.cell? ⟨r, 0, none⟩ = some (.slice A bs.length c) := by rw [cell_of_row _ _ _ _ _ _ h1]; rfl
 clear h h1 h2
 generalize bs.length = n at *
 go_enter Tryz.func81, Tryz.ntmps81
 go_wp2
 go_ret
 exact ⟨rfl, rfl⟩
theorem rdBad_at {w : World} {S : Nat → Prop} {r : Nat} {bs : List UInt8} {bad : Bool} (h : RdIs w S r bs bad) :
  Calls Tryz.prog 79 #[.pointer (some ⟨r, 0, none⟩)] w fun e w' => e = .returned (.bool bad) ∧ w' = w := by
 obtain ⟨A, c, h1, h2⟩ := h.row
 have c0 : w.cell? ⟨r, 1, none⟩ = some (.bool bad) := by rw [cell_of_row _ _ _ _ _ _ h1]; rfl
 clear h h1 h2
 go_enter Tryz.func79, Tryz.ntmps79
 go_wp2
 go_ret
 exact ⟨rfl, rfl⟩
theorem rdNew_at {w : World} {S : Nat → Prop} {A : Option Addr} {n c : Nat} {bs : List UInt8} (h : SlR Rep.u8 w (Out S w) A n c bs) (hS : ∀ k, S k → k < w.heap.size) :
  Calls Tryz.prog 76 #[.slice A n c] w fun e w' => e = .returned (.pointer (some ⟨w.heap.size, 0, none⟩)) ∧ RdIs w' (fun k => S k ∨ k = w.heap.size) w.heap.size bs false ∧ Ext w w' ∧ w'.heap.size = w.heap.size + 1 := by
 have hE := ext_alloc w (.cells #[.slice A n c, .bool false] 179)
 have HE := hid hE
 have hn := h.1
 have HR := hid (show RdIs (w.alloc (.cells #[.slice A n c, .bool false] 179)) (fun k => S k ∨ k = w.heap.size) w.heap.size bs false from
  ⟨⟨A, c, by rw [← hn]; exact heap_alloc_last w _, by rw [← hn]; exact slR_more h hE fun k hk => hk.imp id fun e => by omega⟩, .inr rfl⟩)
 clear h hE hn hS
 go_enter Tryz.func76, Tryz.ntmps76
 go_wp2
 go_ret
 exact ⟨rfl, HR.out, HE.out, by simp⟩
structure TextIs (w : World) (S : Nat → Prop) (r : Nat) (bs : List UInt8) (bad : Bool) (e : Ending) (w' : World) : Prop where
 ans : e = .returned (.string (str (textS bs).1))
 rd : RdIs w' S r (textS bs).2.1 (bad || (textS bs).2.2)
 kept : Kept2 r r w w'
theorem textS_none {bs : List UInt8} (h : numO bs = none) : numS bs = (0, [], true) ∧ textS bs = ([], [], true) := by
 unfold numS textS textO; rw [h]; exact ⟨rfl, rfl⟩
theorem textS_bad {bs r : List UInt8} {x : Int} (h : numO bs = some (x, r)) (hx : ¬ (0 ≤ x ∧ x ≤ (r.length : Int))) : numS bs = (x, r, false) ∧ textS bs = ([], [], true) := by
 unfold numS textS textO; rw [h]; dsimp only; rw [if_neg hx]; exact ⟨rfl, rfl⟩
theorem textS_good {bs r : List UInt8} {x : Int} (h : numO bs = some (x, r)) (hx : 0 ≤ x ∧ x ≤ (r.length : Int)) : numS bs = (x, r, false) ∧ textS bs = (r.take x.toNat, r.drop x.toNat, false) := by
 unfold numS textS textO; rw [h]; dsimp only; rw [if_pos hx]; exact ⟨rfl, rfl⟩
set_option maxRecDepth 100000 in
set_option maxHeartbeats 2000000 in
theorem rdText_at {w : World} {S : Nat → Prop} {r : Nat} {bs : List UInt8} {bad : Bool} (h : RdIs w S r bs bad) (hb : bs.length ≤ 1000000000000) :
  Calls Tryz.prog 78 #[.pointer (some ⟨r, 0, none⟩)] w fun e w' => TextIs w S r bs bad e w' := by
 have hcc := rdNum_at h
 have HL := hid (numS_len bs)
 have H0 := hid h
 clear h
 go_enter Tryz.func78, Tryz.ntmps78
 go_wp2_with fail
 refine hcc.mono ?_
 clear hcc
 rintro e w1 ⟨rfl, hR, hK⟩
 obtain ⟨nv, hnv⟩ : ∃ nv, nv = (numS bs).1 := ⟨_, rfl⟩
 obtain ⟨b1, hb1⟩ : ∃ b1, b1 = (numS bs).2.1 := ⟨_, rfl⟩
 obtain ⟨f1, hf1⟩ : ∃ f1, f1 = (numS bs).2.2 := ⟨_, rfl⟩
 have Hns := hid (show numS bs = (nv, b1, f1) by rw [hnv, hb1, hf1])
 rw [← hb1, ← hf1] at hR
 rw [← hnv]
 have hlb : b1.length ≤ 1000000000000 := by rw [hb1]; have := HL.out; omega
 clear hnv hb1 hf1 HL
 have HR := hid hR
 have HK := hid hK
 obtain ⟨A, c, h1, h2⟩ := hR.row
 have c0 : w1.cell? ⟨r, 0, none⟩ = some (.slice A b1.length c) := by rw [cell_of_row _ _ _ _ _ _ h1]; rfl
 have hnc := h2.2.1
 have hcm := h2.2.2.1
 have H2 := hid h2; have Hrow := hid h1
 clear hR hK h1 h2
 generalize hn1 : b1.length = n1 at *
 have Hn1 := hid hn1
 clear hn1
 by_cases hbad : nv < 0 ∨ (n1 : Int) < nv
 ·have Hts := hid (show textS bs = ([], [], true) by
   cases ho : numO bs with
   | none => exact (textS_none ho).2
   | some y =>
    obtain ⟨x, rr⟩ := y
    have h3 : numS bs = (x, rr, false) := by unfold numS; rw [ho]
    rw [Hns.out] at h3
    simp only [Prod.mk.injEq] at h3
    obtain ⟨rfl, rfl, -⟩ := h3
    exact (textS_bad ho (by have := Hn1.out; omega)).2)
  have hcc := rdFail_at HR.out
  go_upto_region 2 with (fail)
  go_cut [17] (fun z wx => z = .bool true ∧ Hid (wx = w1))
  case first =>
   by_cases h0 : nv < 0
   ·go_wp2_with fail
    go_meet
    case rel => exact ⟨rfl, hid rfl⟩
   ·have h1 : (n1 : Int) < nv := by omega
    go_wp2_with fail
    go_meet
    case rel => exact ⟨rfl, hid rfl⟩
  case rest =>
  obtain ⟨rfl, hw⟩ := hcut
  obtain rfl := hw.out.symm
  clear hw
  go_wp2_with fail
  refine hcc.mono ?_
  clear hcc
  rintro e w2 ⟨⟨v, rfl⟩, hR, hK⟩
  have HR2 := hid hR; have HK2 := hid (HK.out.trans hK)
  clear hR hK
  go_wp2
  go_ret
  exact ⟨by rw [Hts.out]; rfl, by rw [Hts.out, Bool.or_true]; exact HR2.out, HK2.out⟩
 ·obtain ⟨m, rfl⟩ : ∃ m : Nat, nv = (m : Int) := ⟨nv.toNat, by omega⟩
  have hm0 : ¬ ((m : Int) < 0) := by omega
  have hm1 : ¬ ((n1 : Int) < (m : Int)) := by omega
  have hm2 : (0 : Int) ≤ (m : Int) := by omega
  have hmn : m ≤ n1 := by omega
  have Hts := hid (show (textS bs).1 = b1.take m ∧ (textS bs).2.1 = b1.drop m ∧ (textS bs).2.2 = f1 by
   cases ho : numO bs with
   | none =>
    have h3 := textS_none ho
    have h4 := h3.1
    rw [Hns.out] at h4
    simp only [Prod.mk.injEq] at h4
    obtain ⟨h5, rfl, rfl⟩ := h4
    rw [h3.2]
    exact ⟨by simp, by simp, rfl⟩
   | some y =>
    obtain ⟨x, rr⟩ := y
    have h3 : numS bs = (x, rr, false) := by unfold numS; rw [ho]
    rw [Hns.out] at h3
    simp only [Prod.mk.injEq] at h3
    obtain ⟨rfl, rfl, rfl⟩ := h3
    rw [(textS_good ho (by have := Hn1.out; omega)).2, Int.toNat_natCast]
    exact ⟨rfl, rfl, rfl⟩)
  have hst := run_str (slR_rb (slR_take H2.out m hmn)) c
  rw [show (b1.take m).length = m by rw [List.length_take]; have := Hn1.out; omega] at hst
  obtain ⟨A', hA', hq⟩ := slice_fromK H2.out m hmn
  have g1 : w1.frozen? ⟨r, 0, none⟩ = false := by simp [World.frozen?, Hrow.out]
  have hmc : (m : Int) ≤ (c : Int) := by omega
  have HA' := hid hA'
  clear hA' hbad
  generalize hx : str (b1.take m) = sx at *
  have Hx := hid hx
  clear hx
  go_wp2_with fail
  go_ret
  have hkp : Kept2 r r w1 (w1.setCell ⟨r, 0, none⟩ (.slice A' (n1 - m) (c - m))) := ⟨rfl, rfl, rfl, by simp, fun j hj h1 _ => heap_setCell_other w1 ⟨r, 0, none⟩ j _ (fun e => h1 e)⟩
  have hl : (b1.drop m).length = n1 - m := by rw [List.length_drop]; have := Hn1.out; omega
  refine ⟨by rw [Hts.out.1, Hx.out]; rfl, by rw [Hts.out.2.1, Hts.out.2.2]; exact ⟨⟨A', _, by rw [hl]; exact heap_setCell_row Hrow.out _, by rw [hl]; exact slR_kept HA'.out hkp HR.out.own HR.out.own⟩, HR.out.own⟩, HK.out.trans hkp⟩
end Go.Proofs.YtakebdeldndaaaaGreatDoor
