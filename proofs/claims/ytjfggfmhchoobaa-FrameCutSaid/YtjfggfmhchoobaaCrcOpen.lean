/- The walks of crc.Table.Open and of the laws' own helpers (chapter 2). -/
import Derived.Test.YtjfggfmhchoobaaRefCrc
import Derived.Lib.SlBytesConst
namespace Go.Proofs.Ytjfggfmhchoobaa
open Go Go.RowKit
set_option linter.unusedSimpArgs false
set_option linter.unusedVariables false

/-! ### The contracts at a length of any form -/
theorem sum_at (tb : Nat) (A : Option Addr) (n c : Nat) (bs : List UInt8) (w : World) (hn : n = bs.length) (hm : n ≤ 140737488000000) (ht : TabAt w tb) (hb : RB w A bs) :
    Calls Try.prog 17 #[.pointer (some ⟨tb, 0, none⟩), .slice A n c] w fun e w' => e = .returned (.int .u32 ((Crc.sum bs).toNat : Int)) ∧ w = w' := by
  subst hn; exact sum_calls tb A c bs w (by omega) ht hb
theorem seal_at (tb : Nat) (A : Option Addr) (n c : Nat) (bs : List UInt8) (w : World) (hn : n = bs.length) (hm : n ≤ 140737488000000) (ht : TabAt w tb) (hb : RB w A bs) :
    Calls Try.prog 22 #[.pointer (some ⟨tb, 0, none⟩), .slice A n c] w (RetB w (Crc.seal_ bs)) := by
  subst hn; exact seal_calls tb A c bs w hm ht hb
theorem equal_at (A1 A2 : Option Addr) (n1 n2 c1 c2 : Nat) (x y : List UInt8) (w : World) (e1 : n1 = x.length) (e2 : n2 = y.length) (h1 : RB w A1 x) (h2 : RB w A2 y) :
    Calls Try.prog 34 #[.slice A1 n1 c1, .slice A2 n2 c2] w fun e w' => e = .returned (.bool (x == y)) ∧ w = w' := by
  subst e1; subst e2; exact equal_calls A1 A2 c1 c2 x y w h1 h2
theorem run_str_at {w : World} {A : Option Addr} {n : Nat} {bs : List UInt8} (hn : n = bs.length) (h : RB w A bs) (c : Nat) :
    (convert 22 9 (.slice A n c)).run Try.prog w = .ok (.string (str bs)) w := by
  subst hn; exact run_str h c

set_option maxRecDepth 100000 in
set_option maxHeartbeats 1000000 in
theorem open_at (tb : Nat) (A : Option Addr) (n c : Nat) (bs : List UInt8) (w : World) (hn : n = bs.length) (hm : n ≤ 140737488000000) (hc : n ≤ c) (ht : TabAt w tb) (hb : RB w A bs) :
    Calls Try.prog 18 #[.pointer (some ⟨tb, 0, none⟩), .slice A n c] w (RetOpen w bs) := by
  have Hn := hid hn; clear hn
  have Hb := hid hb; clear hb
  have Ht := hid ht; clear ht
  by_cases h4 : n < 4
  · have Hg := hid (good_short (bs := bs) (by rw [← Hn.out]; exact h4))
    have hlt : (n : Int) - 4 < 0 := by omega
    go_enter Try.func18, Try.ntmps18
    go_wp2
    go_ret2
    exact ⟨⟨_, by rw [Hg.out]; rfl, by rw [Hg.out]; exact OB_nil _ _⟩, Below.refl _ _⟩
  · have h4' : 4 ≤ n := by omega
    have hlt : ¬ (n : Int) - 4 < 0 := by omega
    obtain ⟨m, rfl⟩ : ∃ m, n = m + 4 := ⟨n - 4, by omega⟩
    have hq : (Crc.seal_ (bs.take m) == bs) = Crc.good bs := by
      unfold Crc.good; rw [← Hn.out]; simp [h4']
    have Hq := hid hq; clear hq
    obtain ⟨x, hx⟩ : ∃ x, x = bs.take m := ⟨_, rfl⟩
    rw [← hx] at Hq
    have Hx := hid hx; clear hx
    have Hl := hid (show m = x.length by rw [Hx.out, List.length_take, ← Hn.out]; omega)
    have Hbx := hid (Hb.out.take m)
    rw [← Hx.out] at Hbx
    go_enter Try.func18, Try.ntmps18
    go_wp2_with fail
    have hcc := seal_at tb A m c x w Hl.out (by omega) Ht.out Hbx.out
    refine hcc.mono ?_
    clear hcc
    rintro e w1 ⟨v1, rfl, hO1, hB1⟩
    obtain ⟨A1, c1, rfl, -, hr1⟩ := hO1.read
    have HO1 := hid hO1; have HB1 := hid hB1; clear hO1 hB1
    go_wp2_with fail
    have hcc := equal_at A1 A (Crc.seal_ x).length (m + 4) c1 c (Crc.seal_ x) bs w1 rfl Hn.out hr1 (Hb.out.below HB1.out)
    refine hcc.mono ?_
    clear hcc hr1
    rintro e w2 ⟨rfl, rfl⟩
    rw [Hq.out]
    cases hg : Crc.good bs
    · have Hg := hid hg; clear hg
      go_wp2
      go_ret2
      exact ⟨⟨_, by rw [Hg.out]; rfl, by rw [Hg.out]; exact OB_nil _ _⟩, HB1.out⟩
    · have Hg := hid hg; clear hg
      go_wp2_with (at_builtin; refine wpList_appB (w0 := w) rfl (.const (.slice none 0 0)) (.tmp 24) rfl w.heap.size (.slice none 0 0) [] rfl (OB_nil _ _) HB1 HB1.out.size A c m x rfl Hl (Hbx.out.below HB1.out) (by have := Hl.out; simp; omega) ?_; intro v w2 Hob Hbel _)
      go_ret2
      exact ⟨⟨_, by rw [Hg.out]; rfl, by rw [Hg.out, ← Hn.out, if_pos rfl, Nat.add_sub_cancel, ← Hx.out]; exact Hob⟩, Hbel⟩

theorem RetOpen.sealed {w w' : World} {x : List UInt8} {e : Ending} (h : RetOpen w (Crc.seal_ x) e w') : ∃ v, e = .returned (.tuple #[v, .int .i64 0]) ∧ OB w' w.heap.size v x ∧ Below w.heap.size w w' := by
  obtain ⟨⟨v, rfl, hO⟩, hB⟩ := h
  rw [Crc.good_seal, if_pos rfl] at hO
  have e : (Crc.seal_ x).take ((Crc.seal_ x).length - 4) = x := by rw [Crc.seal_length, Nat.add_sub_cancel, Crc.seal_eq]; simp
  rw [e] at hO
  exact ⟨v, by rw [Crc.good_seal]; rfl, hO, hB⟩
theorem RetOpen.bad {w w' : World} {x : List UInt8} {e : Ending} (h : RetOpen w x e w') (hg : Crc.good x = false) : ∃ v, e = .returned (.tuple #[v, .int .i64 2]) ∧ OB w' w.heap.size v [] ∧ Below w.heap.size w w' := by
  obtain ⟨⟨v, rfl, hO⟩, hB⟩ := h
  rw [hg] at hO
  exact ⟨v, by rw [hg]; rfl, hO, hB⟩
/-- What is owned reads on when the world grows, at its length. -/
theorem OB.readAt {w : World} {base : Nat} {v : Value} {bs : List UInt8} (h : OB w base v bs) : ∃ A c, v = .slice A bs.length c ∧ bs.length ≤ c ∧ Hid (RB w A bs) := h.read

theorem OB.readSame {w : World} {base n c : Nat} {A : Option Addr} {bs : List UInt8} (h : OB w base (.slice A n c) bs) : RB w A bs := by
  obtain ⟨A', c', e, -, hr⟩ := RV.own h
  simp only [Value.slice.injEq] at e
  rw [e.1]; exact hr

/-! ### A table in a variable of one's own -/
theorem TabAt.new (w : World) : TabAt (w.alloc (.cells (tabs 256) 27)) w.heap.size := fun i hi => by
  rw [cell_of_row _ _ _ _ _ _ (heap_alloc_last w _), tabs_get _ _ hi, if_pos hi]
theorem zero_tab : ∀ w, (zeroValue 27).run Try.prog w = .ok (.agg (tabs 0)) w := (zero_of_info tabs_zero_info).1
theorem wpList_store_tab {ops : Array Oper} {rest : List Oper} {o : Oper} {a : Act} {w : World} {Q : Exit → Act → World → Prop} (hgd : o.guard = none) (x y : Operand) (ho : o.op = .store 27 x y)
    (hx : a.eval x = .pointer (some ⟨w.heap.size, 0, none⟩)) (hy : a.eval y = .agg (tabs 256)) (h : wpList Try.prog ops Q rest (a.put o.dst undef) (w.alloc (.cells (tabs 256) 27))) :
    wpList Try.prog ops Q (o :: rest) a (w.alloc (.cells (tabs 0) 27)) := by
  refine wpList_store_row hgd 27 x y ho w.heap.size hx (tabs 256) hy 27 (tabs 0) (heap_alloc_last w _) ?_ (by rw [tabs_size, tabs_size]) (tabs_cells 256) ?_
  · rw [tabs_size]; exact (zero_of_info tabs_zero_info).2
  · rw [World.setRow_alloc_new]; exact h
theorem below_tab {B : Nat} {w0 w : World} (h : Below B w0 w) (hB : B ≤ w.heap.size) : Below B w0 (w.alloc (.cells (tabs 256) 27)) := h.alloc hB _

/-! ### The laws' helpers -/
theorem example_sum : (Crc.sum [49, 50, 51, 52, 53, 54, 55, 56, 57]).toNat = 3421780262 := by decide +kernel

set_option maxRecDepth 100000 in
theorem shown_calls (w : World) :
    Calls Try.prog 14 #[] w fun e w' => e = .returned (.bool true) ∧ Below w.heap.size w w' := by
  have hz := zero_tab
  go_enter Try.func14, Try.ntmps14
  go_wp2_with fail
  refine (new_calls _).mono ?_
  rintro e w1 ⟨rfl, hb1⟩
  have HB1 := hid hb1; clear hb1
  have Ht := hid (TabAt.new w1)
  have hz1 : (w1.alloc (.cells (tabs 256) 27)).heap.size = w1.heap.size + 1 := by simp
  have kc := fun (C : Array Value) (n c : Nat) => Lib.run_convert_bytes_const (P := Try.prog) (w1.alloc (.cells (tabs 256) 27)) 22 5 C n c Try.underlying22 Try.underlying5
  rw [hz1] at kc
  have Hz1 := hid hz1; clear hz1
  go_wp2_with (refine wpList_store_tab (w := w1) rfl (.tmp 1) (.tmp 2) rfl rfl rfl ?_)
  have hx := RB_boxf (w1.alloc (.cells (tabs 256) 27)) #[.int .u8 49, .int .u8 50, .int .u8 51, .int .u8 52, .int .u8 53, .int .u8 54, .int .u8 55, .int .u8 56, .int .u8 57] (9, 10) [49, 50, 51, 52, 53, 54, 55, 56, 57] rfl
  have hcc := sum_at w1.heap.size (some ⟨(w1.alloc (.cells (tabs 256) 27)).heap.size, 0, none⟩) 9 9 [49, 50, 51, 52, 53, 54, 55, 56, 57] _ rfl (by omega) (Ht.out.below ((Below.refl _ _).alloc (Nat.le_refl _) _)) hx
  rw [Hz1.out] at hcc
  refine hcc.mono ?_
  clear hcc hx
  rintro e w2 ⟨rfl, rfl⟩
  rw [example_sum]
  go_wp2_with fail
  have hcc := seal_at w1.heap.size none 0 0 [] ((w1.alloc (.cells (tabs 256) 27)).alloc (.cells #[.int .u8 49, .int .u8 50, .int .u8 51, .int .u8 52, .int .u8 53, .int .u8 54, .int .u8 55, .int .u8 56, .int .u8 57] 5 (9, 10))) rfl (by omega) (Ht.out.below ((Below.refl _ _).alloc (Nat.le_refl _) _)) (RB.nil _ _)
  refine hcc.mono ?_
  clear hcc
  rintro e w2 ⟨v, rfl, hO, hB⟩
  obtain ⟨A, c, rfl, -, -⟩ := hO.read
  have HB := hid hB; clear hB hO
  have hl : (Crc.seal_ []).length = 4 := by rw [Crc.seal_length]; rfl
  rw [hl]
  go_wp2
  go_ret
  exact ⟨rfl, below_then ((below_tab HB1.out HB1.out.size).alloc (by have := HB1.out.size; simp; omega) _) (by have := HB1.out.size; simp; omega) HB.out⟩

theorem few_at (A : Option Addr) (n c : Nat) (w : World) (hc : n ≤ c) :
    Calls Try.prog 16 #[.slice A n c] w fun e w' => e = .returned (.slice A (min n 500) c) ∧ w = w' := by
  by_cases h : n ≤ 500
  · have hm := hid (show min n 500 = n by omega)
    go_enter Try.func16, Try.ntmps16
    go_wp2
    go_ret
    exact ⟨by rw [hm.out]; rfl, rfl⟩
  · have hm := hid (show min n 500 = 500 by omega)
    go_enter Try.func16, Try.ntmps16
    go_wp2
    go_ret
    exact ⟨by rw [hm.out]; rfl, rfl⟩
theorem few_to (A : Option Addr) (n m c : Nat) (w : World) (hc : n ≤ c) (hm : m = min n 500) :
    Calls Try.prog 16 #[.slice A n c] w fun e w' => e = .returned (.slice A m c) ∧ w = w' := by
  subst hm; exact few_at A n c w hc
/-- The first 500 bytes of what came in. -/
theorem few_in {W : World} {A : Option Addr} {n c : Nat} {bs : List UInt8} (hn : n = bs.length) (hc : n ≤ c) (hb : RB W A bs) :
    ∃ m x, m = min n 500 ∧ Hid (m = x.length) ∧ m ≤ c ∧ m ≤ 500 ∧ Hid (RB W A x) ∧ x = bs.take 500 :=
  ⟨min n 500, bs.take 500, rfl, by show min n 500 = _; rw [List.length_take]; omega, by omega, by omega, hb.take 500, rfl⟩
end Go.Proofs.Ytjfggfmhchoobaa
