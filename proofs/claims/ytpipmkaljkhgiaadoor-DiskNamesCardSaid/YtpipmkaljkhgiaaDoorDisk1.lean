/- The walks of chapter 8's small functions: kind, short, May. -/
import Derived.Test.YtpipmkaljkhgiaaDoorConv
import Derived.Test.YtpipmkaljkhgiaaDoorShelf
namespace Go.Proofs.YtpipmkaljkhgiaaDoor
open Go Go.RowKit
set_option linter.unusedSimpArgs false
set_option linter.unusedVariables false

theorem short_at (A : Option Addr) (n c : Nat) (w : World) (hc : n ≤ c) :
    Calls Tryd.prog 11 #[.slice A n c] w fun e w' => e = .returned (.slice A (min n 200) c) ∧ w = w' := by
  by_cases h : n ≤ 200
  · have hm := hid (show min n 200 = n by omega)
    go_enter Tryd.func11, Tryd.ntmps11
    go_wp2
    go_ret
    exact ⟨by rw [hm.out]; rfl, rfl⟩
  · have hm := hid (show min n 200 = 200 by omega)
    go_enter Tryd.func11, Tryd.ntmps11
    go_wp2
    go_ret
    exact ⟨by rw [hm.out]; rfl, rfl⟩
def kindN (c n : Int) : Int := (if c < 0 then -(c + 1) else c) % n
theorem kind_at (c n : Int) (w : World) (hc : -9223372036854775808 ≤ c ∧ c ≤ 9223372036854775807) (hn : 0 < n ∧ n ≤ 1000) :
    Calls Tryd.prog 17 #[.int .i64 c, .int .i64 n] w fun e w' => e = .returned (.int .i64 (kindN c n)) ∧ w = w' := by
  unfold kindN
  have hn0 : ¬ (n = 0) := by omega
  by_cases h : c < 0
  · have h1 : IntKind.i64.wrap (c + 1) = c + 1 := by rw [IntKind.wrap_i64]; omega
    have h2 : IntKind.i64.wrap (-(c + 1)) = -(c + 1) := by rw [IntKind.wrap_i64]; omega
    have h3 := hid (show (-(c + 1)).tmod n = (-(c + 1)) % n from Int.tmod_eq_emod_of_nonneg (by omega))
    have h4 : IntKind.i64.wrap ((-(c + 1)).tmod n) = (-(c + 1)).tmod n := by
      rw [h3.out, IntKind.wrap_i64]
      have := Int.emod_nonneg (-(c + 1)) hn0
      have := Int.emod_lt_of_pos (-(c + 1)) hn.1
      omega
    rw [if_pos h]
    go_enter Tryd.func17, Tryd.ntmps17
    go_wp2
    go_ret
    exact ⟨by rw [← h3.out, Int.neg_tmod]; rfl, rfl⟩
  · have h3 := hid (show c.tmod n = c % n from Int.tmod_eq_emod_of_nonneg (by omega))
    have h4 : IntKind.i64.wrap (c.tmod n) = c.tmod n := by
      rw [h3.out, IntKind.wrap_i64]
      have := Int.emod_nonneg c hn0
      have := Int.emod_lt_of_pos c hn.1
      omega
    rw [if_neg h]
    go_enter Tryd.func17, Tryd.ntmps17
    go_wp2
    go_ret
    exact ⟨rfl, rfl⟩

/-! ### May -/
def letters : List UInt8 := [97, 98, 99, 100, 101, 102, 103, 104, 105, 106, 107, 108, 109, 110, 111, 112, 113, 114, 115, 116, 117, 118, 119, 120, 121, 122, 48, 49, 50, 51, 52, 53, 54, 55, 56, 57, 95]
def mayB (nm : List UInt8) : Bool := decide (0 < nm.length) && decide (nm.length ≤ 20) && nm.all (letters.contains ·)
theorem dropWhile_nil {p : UInt8 → Bool} : ∀ (l : List UInt8), l.dropWhile p = [] ↔ ∀ x ∈ l, p x = true
  | [] => by simp
  | x :: l => by
    rw [List.dropWhile_cons]
    by_cases h : p x = true
    · rw [if_pos h, dropWhile_nil l]; simp [h]
    · rw [if_neg h]; simp [h]
theorem dropWhile_head {p : UInt8 → Bool} : ∀ (l : List UInt8) (x : UInt8) (r : List UInt8), l.dropWhile p = x :: r → p x = false
  | [], _, _, h => by simp at h
  | y :: l, x, r, h => by
    rw [List.dropWhile_cons] at h
    by_cases hy : p y = true
    · rw [if_pos hy] at h; exact dropWhile_head l x r h
    · rw [if_neg hy] at h
      simp only [List.cons.injEq] at h
      rw [← h.1]; simpa using hy
theorem trim_nil (l cs : List UInt8) : Lib.trimS l cs = [] ↔ ∀ x ∈ l, cs.contains x = true := by
  unfold Lib.trimS Lib.trimLeftS Lib.trimRightS
  rw [dropWhile_nil]
  constructor
  · intro h
    cases hd : l.reverse.dropWhile (cs.contains ·) with
    | nil =>
      rw [dropWhile_nil] at hd
      exact fun x hx => hd x (by simpa using hx)
    | cons x r =>
      have h1 := dropWhile_head _ _ _ hd
      have h2 := h x (by rw [hd]; simp)
      rw [h1] at h2; cases h2
  · intro h x hx
    have hd : l.reverse.dropWhile (cs.contains ·) = [] := (dropWhile_nil _).2 fun x hx => h x (by simpa using hx)
    rw [hd] at hx; simp at hx
theorem letters_ascii : ∀ (j : Nat) b, (⟨letters.toArray⟩ : ByteArray).data.toList[j]? = some b → b.toNat < 128 := by
  intro j b h
  have hm : b ∈ letters := List.mem_of_getElem? h
  have hall : ∀ b ∈ letters, b.toNat < 128 := by decide
  exact hall b hm
set_option maxRecDepth 100000 in
theorem may_at (nm : List UInt8) (w : World) :
    Calls Tryd.prog 28 #[.string (str nm)] w fun e w' => e = .returned (.bool (mayB nm)) ∧ Below w.heap.size w w' := by
  have hsz := hid (str_size nm)
  have hl : ∀ w, (Builtin.len_ #[9] 3 #[.string (str nm)]).run Tryd.prog w = .ok (.int .i64 (nm.length : Int)) w := fun w => by go_simp; rfl
  by_cases h0 : 0 < nm.length
  rotate_left
  · have hb := hid (show mayB nm = false by unfold mayB; simp [h0])
    have h0I : ¬ ((0 : Int) < (nm.length : Int)) := by omega
    go_enter Tryd.func28, Tryd.ntmps28
    go_wp2
    go_ret
    exact ⟨by rw [hb.out]; rfl, Below.refl _ _⟩
  by_cases h20 : nm.length ≤ 20
  rotate_left
  · have hb := hid (show mayB nm = false by unfold mayB; simp [h20])
    have h0I : ¬ ((nm.length : Int) ≤ 20) := by omega
    go_enter Tryd.func28, Tryd.ntmps28
    go_wp2
    go_ret
    exact ⟨by rw [hb.out]; rfl, Below.refl _ _⟩
  have hcon := Tryd.strings_Trim_set (str nm) ⟨letters.toArray⟩ w (by rw [hsz.out]; omega) (by decide) letters_ascii
  have hb := hid (show mayB nm = (Lib.trimS nm letters == []) by
    unfold mayB
    simp only [h0, h20, decide_true, Bool.true_and]
    rw [Bool.eq_iff_iff, beq_iff_eq, trim_nil, List.all_eq_true])
  obtain ⟨t, ht⟩ : ∃ t, t = Lib.trimS nm letters := ⟨_, rfl⟩
  rw [← ht] at hb
  go_enter Tryd.func28, Tryd.ntmps28
  go_wp2_with fail
  refine hcon.mono ?_; clear hcon
  rintro e w' ⟨rfl, hB⟩
  rw [show (⟨(Lib.trimS (str nm).data.toList (⟨letters.toArray⟩ : ByteArray).data.toList).toArray⟩ : ByteArray) = str t by rw [ht]; rfl]
  have e1 := str_toList t
  have HB := hid hB
  clear hB ht
  go_wp2
  go_ret
  exact ⟨by rw [hb.out]; cases t <;> rfl, HB.out⟩
end Go.Proofs.YtpipmkaljkhgiaaDoor
