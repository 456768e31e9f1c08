/- make of bytes, and copy into them. -/
import Derived.Test.YtakebdeldndaaaaGreatFound
import Derived.Laws.CopyOwn
namespace Go.Proofs.YtakebdeldndaaaaGreat
open Go Go.RowKit
set_option linter.unusedVariables false

section
variable {w w0 : World} {ops : Array Oper} {rest : List Oper} {o : Oper} {a : Act} {Q : Exit → Act → World → Prop}
theorem wpList_makeB (hgd : o.guard = none) (l c : Operand) (hop : o.op = .makeSlice 32 l c) (n m : Nat) (hl : a.eval l = .int .i64 (n : Int)) (C : Int) (hc : a.eval c = .int .i64 C) (hC : C = (m : Int)) (hnm : n ≤ m) (hm : m ≤ 281474976710656)
    (h : wpList Tryz.prog ops Q rest (a.put o.dst (.slice (some ⟨w.heap.size, 0, none⟩) n m)) (w.alloc (.cells (madeCells #[.int .u8 0] m) 5))) :
    wpList Tryz.prog ops Q (o :: rest) a w := by
  subst hC
  refine wpList_plain hgd fun K hK => ?_
  obtain ⟨i, hi, hii⟩ := Option.map_eq_some_iff.1 u8info.hi
  simp only [Prod.mk.injEq] at hii
  obtain ⟨hz0, hz1, hz2⟩ := hii
  have hrun := run_make (P := Tryz.prog) w 32 5 i _ u8info.ht hi hz0 .i64 .i64 (n : Int) (m : Int) (by omega) (by omega) (by rw [hz2]; omega) (by omega)
  rw [hz1, Int.toNat_natCast, Int.toNat_natCast, Nat.mul_one] at hrun
  unfold Oper.wp
  simp [execOp, hop, hl, hc, hrun, Result.andThen]
  exact hK _ _ h
theorem wpList_copyB (hgd : o.guard = none) (d s : Operand) (ho : o.op = .call { callee := .builtin .copy, args := #[d, s], argTypes := #[32, 32] })
    (g n m : Nat) (hd : a.eval d = .slice (some ⟨g, 0, none⟩) n m) (A : Option Addr) (c : Nat) (bs : List UInt8) (hs : a.eval s = .slice A n c) (hn : Hid (n = bs.length)) (hr : Hid (RB w A bs))
    (cur : Array Value) (hg : Hid (w.heap[g]? = some (.cells cur 5))) (hcur : cur.size = m) (hnm : n ≤ m) (hm : m ≤ 281474976710656) (base : Nat) (hB : Hid (Below base w0 w)) (hbg : base ≤ g)
    (h : ∀ w', Hid (OB w' base (.slice (some ⟨g, 0, none⟩) n m) bs) → Hid (Below base w0 w') → wpList Tryz.prog ops Q rest (a.put o.dst (goInt (n : Int))) w') :
    wpList Tryz.prog ops Q (o :: rest) a w := by
  obtain rfl : n = bs.length := hn.out
  have hlen : (bvs bs).length = bs.length := bvs_length bs
  have hmin : Nat.min bs.length bs.length = bs.length := Nat.min_self _
  obtain ⟨i, hi, hii⟩ := Option.map_eq_some_iff.1 u8info.hi
  simp only [Prod.mk.injEq] at hii
  have hfit : 0 + (bvs bs).length ≤ cur.toList.length := by
    have hcl : cur.toList.length = m := by rw [← hcur]; exact Array.length_toList
    rw [hlen, hcl]; omega
  refine wpList_copy_splice hgd d s 32 32 ho 5 u8info.ht (by rw [hi]; show some i.size = _; rw [hii.2.1]) (some ⟨g, 0, none⟩) A bs.length m bs.length c hd hs g 0 cur.toList 5 (by rw [Array.toArray_toList]; exact hg.out) (bvs bs) (by rw [hlen, hmin]) (fun hp => ?_) hfit (bvs_one bs) base w0 hB.out hbg ?_
  · rcases hr.out with h | ⟨b, o', e, h⟩
    · rw [h] at hp; simp at hp
    · refine ⟨rfl, ⟨b, o', none⟩, e, fun j v hv => ?_⟩
      have := h j v hv
      rwa [Addr.add_lit]
  · intro w' hg' hB'
    rw [hlen]
    refine h w' ?_ hB'
    have hsp : (splice cur.toList 0 (bvs bs)).length = m := by
      have hcl : cur.toList.length = m := by rw [← hcur]; exact Array.length_toList
      simp only [splice, List.length_append, List.length_take, List.length_drop, hcl, hlen]; omega
    refine ⟨by rw [hlen, Nat.mul_one], .inr ⟨g, m, (splice cur.toList 0 (bvs bs)).toArray, rfl, hbg, hg'.out, by omega, by simp only [maxLen]; omega, by simpa using hsp, ?_⟩⟩
    simp [splice, hlen]
end
end Go.Proofs.YtakebdeldndaaaaGreat
