/- The walks of slices.Grow at nil, and of slices.Concat of two rows of bytes. -/
import Derived.Test.YtpipmkaljkhgiaaDoorDisk13
import Derived.Lib.AppendZerosOnto
namespace Go.Proofs.YtpipmkaljkhgiaaDoor
open Go Go.RowKit
set_option linter.unusedSimpArgs false
set_option linter.unusedVariables false

theorem wpList_app_run {P : Program} {ops : Array Oper} {rest : List Oper} {o : Oper} {a : Act} {w : World} {Q : Exit → Act → World → Prop} (hgd : o.guard = none) (s x : Operand) {t u : TypeId} (ho : o.op = .call { callee := .builtin .append, args := #[s, x], argTypes := #[t, u] })
    {vs vx v' : Value} {w' : World} (hs : a.eval s = vs) (hx : a.eval x = vx) (hrun : (Builtin.append_ #[t, u] o.type #[vs, vx]).run P w = .ok v' w') (h : wpList P ops Q rest (a.put o.dst v') w') : wpList P ops Q (o :: rest) a w := by
  refine wpList_plain hgd fun K hK => ?_
  unfold Oper.wp
  simp [execOp, ho, resolve, invoke, builtin, hs, hx, hrun, Result.andThen]
  exact hK _ _ h
set_option maxRecDepth 100000 in
set_option maxHeartbeats 1000000 in
theorem grow_nil (n : Nat) (w : World) (hm : n ≤ 1000000000) :
    Calls Tryd.prog 50 #[.slice none 0 0, .int .i64 (n : Int)] w fun e w' => ∃ v, e = .returned v ∧ OB w' w.heap.size v [] ∧ Ext w w' := by
  by_cases h0 : n = 0
  · subst h0
    go_enter Tryd.func50, Tryd.ntmps50
    go_wp2
    go_ret
    exact ⟨_, rfl, OB_none _ _, Below.refl _ _⟩
  have hn : 0 < (n : Int) := by omega
  obtain ⟨i, hi, hii⟩ := Option.map_eq_some_iff.1 u8info.hi
  simp only [Prod.mk.injEq] at hii
  obtain ⟨hz0, hz1, hz2⟩ := hii
  obtain ⟨k, hk⟩ : ∃ k, k = grownCap w n 0 5 := ⟨_, rfl⟩
  have hkn : n ≤ k := by rw [hk]; exact grownCap_ge w _ _ _
  have hkm : k ≤ maxLen := by rw [hk]; exact grownCap_le_maxLen w n 0 5 (by simp only [maxLen]; omega)
  obtain ⟨C, hC⟩ : ∃ C, C = Builtin.zeroCells (Value.int .u8 0).cells n ++ Builtin.zeroCells (Value.int .u8 0).cells (grownCap w n 0 5 - n) := ⟨_, rfl⟩
  have hCs : C.size = k := by
    rw [hC, ← hk]
    simp [Builtin.zeroCells, Value.cells]
    omega
  have happ : ∀ ty, (Builtin.append_ #[22, 3] ty #[.slice none 0 0, .int .i64 (n : Int)]).run Tryd.prog w = .ok (.slice (some ⟨w.heap.size, 0, none⟩) n k) (w.drew.alloc (.cells C 5)) := fun ty => by
    have := Lib.run_append_nil_zeros w 22 3 ty 5 i (.int .u8 0) .i64 .i64 Tryd.underlying22 Tryd.underlying3 hi hz0 n (by omega) (by rw [hz1]; omega) (by omega) (by rw [hz2]; omega)
    rw [← hC, ← hk] at this
    exact this
  have hCs' := hid hCs
  have hneg : ¬ ((n : Int) < 0) := by omega
  clear hC hk hi hz0 hz1 hz2 hCs
  simp only [maxLen] at hkm
  go_enter Tryd.func50, Tryd.ntmps50
  go_wp2_with (at_builtin; refine wpList_app_run rfl (.tmp 20) (.tmp 21) rfl rfl rfl (happ _) ?_; go_frame)
  go_ret
  refine ⟨_, rfl, ⟨by simp [bvs], .inr ⟨w.heap.size, k, C, rfl, Nat.le_refl _, ?_, by simp, by simp only [maxLen]; omega, by rw [hCs'.out]; simp, by simp [bvs]⟩⟩, ?_⟩
  · exact heap_alloc_last w.drew _
  · exact ((Below.refl _ _).drew).alloc (Nat.le_refl _) _

def szs (n1 n2 : Nat) : Nat → Nat
  | 0 => 0
  | 1 => n1
  | _ => n1 + n2
def cats (b1 b2 : List UInt8) : Nat → List UInt8
  | 0 => []
  | 1 => b1
  | _ => b1 ++ b2
set_option maxRecDepth 100000 in
set_option maxHeartbeats 2000000 in
theorem concat_at (g : Nat) (A1 : Option Addr) (n1 c1 : Nat) (b1 : List UInt8) (A2 : Option Addr) (n2 c2 : Nat) (b2 : List UInt8) (w : World) (e1 : n1 = b1.length) (e2 : n2 = b2.length) (hm1 : n1 ≤ 100000000) (hm2 : n2 ≤ 100000000)
    (h1 : RB w A1 b1) (h2 : RB w A2 b2) (hc1 : w.cell? ⟨g, 0, none⟩ = some (.slice A1 n1 c1)) (hc2 : w.cell? ⟨g, 1, none⟩ = some (.slice A2 n2 c2)) :
    Calls Tryd.prog 35 #[.slice (some ⟨g, 0, none⟩) 2 2] w fun e w' => ∃ v, e = .returned v ∧ OB w' w.heap.size v (b1 ++ b2) ∧ Ext w w' := by
  have E1 := hid e1; have E2 := hid e2; have H1 := hid h1; have H2 := hid h2
  have Hc1 := hid hc1; have Hc2 := hid hc2
  clear e1 e2 h1 h2
  go_enter Tryd.func35, Tryd.ntmps35
  go_wp2_with fail
  go_loopw [3, 11] (fun sz i wr => ∃ k : Nat, k ≤ 2 ∧ i = .int .i64 k ∧ sz = .int .i64 (szs n1 n2 k : Int) ∧ w = wr) (fun _ i _ => 2 - (intOf i).toNat)
  case atStart => exact ⟨0, by omega, rfl, rfl, rfl⟩
  case round =>
    obtain ⟨k, hk, rfl, rfl, rfl⟩ := hrel
    obtain rfl | rfl | rfl : k = 0 ∨ k = 1 ∨ k = 2 := by omega
    · simp only [szs]
      go_wp2_with fail
      go_roundw
      case rel => exact ⟨1, by omega, rfl, by simp [szs], trivial⟩
      case measure => simp [intOf]
    · simp only [szs]
      go_wp2_with fail
      go_roundw
      case rel => exact ⟨2, by omega, rfl, by simp [szs], trivial⟩
      case measure => simp [intOf]
    · simp only [szs]
      go_wp2_with fail
      have hcc := grow_nil (n1 + n2) w (by omega)
      refine hcc.mono ?_; clear hcc
      rintro e w1 ⟨v1, rfl, hO1, hB1⟩
      have HO1 := hid hO1; have HB1 := hid hB1; clear hO1 hB1
      clear hc1 hc2
      go_wp2_with fail
      go_loopw [6, 27] (fun v i wr => ∃ k : Nat, k ≤ 2 ∧ i = .int .i64 k ∧ Hid (OB wr w.heap.size v (cats b1 b2 k)) ∧ Hid (Ext w wr)) (fun _ i _ => 2 - (intOf i).toNat)
      case atStart => exact ⟨0, by omega, rfl, HO1, HB1⟩
      case round =>
        clear HO1 HB1
        obtain ⟨k, hk, rfl, HO, HB⟩ := hrel
        have hc1 := cell_below HB.out Hc1.out
        have hc2 := cell_below HB.out Hc2.out
        obtain rfl | rfl | rfl : k = 0 ∨ k = 1 ∨ k = 2 := by omega
        · go_wp2_with (at_builtin; refine wpList_appB (w0 := w) rfl (.tmp 31) (.tmp 32) rfl w.heap.size u6 [] rfl HO HB HB.out.size A1 c1 n1 b1 rfl E1 (H1.out.below HB.out) (by simp; omega) ?_; intro v2 w2 Hob2 Hbel2 _; go_frame)
          go_roundw
          case rel => exact ⟨1, by omega, rfl, Hob2, Hbel2⟩
          case measure => simp [intOf]
        · go_wp2_with (at_builtin; refine wpList_appB (w0 := w) rfl (.tmp 31) (.tmp 32) rfl w.heap.size u6 b1 rfl HO HB HB.out.size A2 c2 n2 b2 rfl E2 (H2.out.below HB.out) (by have := E1.out; omega) ?_; intro v2 w2 Hob2 Hbel2 _; go_frame)
          go_roundw
          case rel => exact ⟨2, by omega, rfl, Hob2, Hbel2⟩
          case measure => simp [intOf]
        · go_wp2
          go_ret
          exact ⟨_, rfl, HO.out, HB.out⟩
end Go.Proofs.YtpipmkaljkhgiaaDoor
