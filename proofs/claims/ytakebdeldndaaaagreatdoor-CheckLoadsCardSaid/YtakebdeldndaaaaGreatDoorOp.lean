/- Several texts of this claim's, one behind the other. -/
import Derived.Test.YtakebdeldndaaaaGreatDoorEvx
import Derived.Test.YtakebdeldndaaaaGreatDoorQcb
/- Rows of definitions as arguments of a row. -/
namespace Go.Proofs.YtakebdeldndaaaaGreatDoor
open Go Go.RowKit Go.ChangeShapes Go.WideShapes Go.ChangeAt
set_option maxRecDepth 100000
set_option linter.unusedSimpArgs false
set_option linter.unusedVariables false
theorem opens_three {α β γ : Type} {R0 : Rep α} {R1 : Rep β} {R2 : Rep γ} {t : TypeId} {f0 f1 f2 : Field} (ht : Tryz.prog.underlying t = some (.struct #[f0, f1, f2])) (o0 : f0.offset = 0) (o1 : f1.offset = R0.size) (o2 : f2.offset = R0.size + R1.size)
  (h0 : Opens R0 f0.type) (c0 : Tryz.prog.cellsOf f0.type = R0.size) (h1 : Opens R1 f1.type) (c1 : Tryz.prog.cellsOf f1.type = R1.size) (h2 : Opens R2 f2.type) (c2 : Tryz.prog.cellsOf f2.type = R2.size)
  (hc : Tryz.prog.cellsOf t = R0.size + R1.size + R2.size) : Opens (Rep.pair R0 (Rep.pair R1 R2)) t := by
 intro H enc W fuel cs x h
 obtain ⟨xs, n, _, rfl, hl, hlen, hf⟩ := DataW.trod_struct ht h
 match xs, hlen, hf with
 | [y0, y1, y2], _, hf =>
  have g0 := hf 0 f0 rfl
  have g1 := hf 1 f1 rfl
  have g2 := hf 2 f2 rfl
  rw [o0, c0, List.drop_zero] at g0
  rw [o1, c1] at g1
  rw [o2, c2] at g2
  obtain ⟨a, ha⟩ := h0 H enc W _ _ _ g0
  obtain ⟨b, hb⟩ := h1 H enc W _ _ _ g1
  obtain ⟨c, hcc⟩ := h2 H enc W _ _ _ g2
  rw [hc] at hl
  refine ⟨(a, b, c), _, (cs.drop R0.size), ?_, ha, _, _, ?_, hb, hcc⟩
  ·rw [List.take_append_drop]
  ·rw [List.take_of_length_le (l := cs.drop (R0.size + R1.size)) (by rw [List.length_drop]; omega), ← List.drop_drop (i := R1.size), List.take_append_drop]
theorem opens_one {α : Type} {R0 : Rep α} {t : TypeId} {f0 : Field} (ht : Tryz.prog.underlying t = some (.struct #[f0])) (o0 : f0.offset = 0) (h0 : Opens R0 f0.type) (c0 : Tryz.prog.cellsOf f0.type = R0.size) (hc : Tryz.prog.cellsOf t = R0.size) : Opens R0 t := by
 intro H enc W fuel cs x h
 obtain ⟨xs, n, _, rfl, hl, hlen, hf⟩ := DataW.trod_struct ht h
 match xs, hlen, hf with
 | [y0], _, hf =>
  have g0 := hf 0 f0 rfl
  rw [o0, c0, List.drop_zero, List.take_of_length_le (by omega)] at g0
  exact h0 H enc W _ _ _ g0
theorem opens_query : Opens RCls 70 := opens_one (R0 := RCls) Tryz.underlying70 rfl opens_cls (by kernel_rfl) (by kernel_rfl)
theorem opens_def : Opens RDef 72 := by
 intro H enc W fuel cs x h
 obtain ⟨⟨a, b, c⟩, r0, r1, e, h0, h1⟩ := opens_three (R0 := Rep.such Rep.i64 I64) (R1 := Rep.txt) (R2 := RCls) Tryz.underlying72 rfl rfl rfl opens_int (by kernel_rfl) opens_txt (by kernel_rfl) opens_query (by kernel_rfl) (by kernel_rfl) H enc W fuel cs x h
 exact ⟨⟨a, b, c⟩, r0, r1, e, h0.1, h1⟩
end Go.Proofs.YtakebdeldndaaaaGreatDoor
/- A place in time, with events, that came in. -/
namespace Go.Proofs.YtakebdeldndaaaaGreatDoor
open Go Go.RowKit
set_option linter.unusedSimpArgs false
set_option linter.unusedVariables false
set_option linter.constructorNameAsVariable false
end Go.Proofs.YtakebdeldndaaaaGreatDoor
/- A pair of numbers that came in. -/
namespace Go.Proofs.YtakebdeldndaaaaGreatDoor
open Go Go.RowKit Go.ChangeShapes Go.WideShapes Go.ChangeAt
set_option maxRecDepth 100000
set_option linter.constructorNameAsVariable false
set_option linter.unusedSimpArgs false
set_option linter.unusedVariables false
theorem int1_cells : Tryz.prog.cellsOf 3 = 1 := by kernel_rfl
theorem ints_of_array {H : Type} {enc : TypeId × Value → H} {W : World} {t : TypeId} {n : Nat} {cs : Array Value} {d : DataW H} {p : List MemPlace} (ht : Tryz.prog.underlying t = some (.array n 3))
  (h : DataW.Trod enc Tryz.prog W 0 (fun _ => true) true t (.agg cs) d p) : ∀ i, i < n → ∃ b : Int, cs[i]? = some (.int .i64 b) ∧ I64 b := by
 intro i hi
 obtain ⟨fuel, hf⟩ := h
 obtain ⟨xs, m, -, -, -, hl, he⟩ := DataW.trod_array ht hf
 have h1 := he i hi
 rw [List.getElem?_eq_getElem (by omega)] at h1
 obtain ⟨k, e0, w0⟩ := opens_int H enc W m _ _ h1
 refine ⟨k, ?_, w0⟩
 have h2 := congrArg (fun l : List Value => l[0]?) e0
 simp only [int1_cells, Nat.mul_one, List.getElem?_take, List.getElem?_drop, Nat.zero_lt_one, if_true, Nat.add_zero] at h2
 simpa [Value.cells, Rep.i64, Rep.cell] using h2
end Go.Proofs.YtakebdeldndaaaaGreatDoor
