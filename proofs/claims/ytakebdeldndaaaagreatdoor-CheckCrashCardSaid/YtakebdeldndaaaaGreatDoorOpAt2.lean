/- Two places in time, with events, that came in. -/
import Derived.Test.YtakebdeldndaaaaGreatDoorOp
namespace Go.Proofs.YtakebdeldndaaaaGreatDoor
open Go Go.RowKit Go.ChangeShapes Go.WideShapes Go.ChangeAt
set_option maxRecDepth 100000
set_option linter.constructorNameAsVariable false
set_option linter.unusedSimpArgs false
set_option linter.unusedVariables false

theorem at_cells {H : Type} {enc : TypeId × Value → H} {W : World} {fuel : Nat} {c0 c1 : Value} {y : DataW H × List MemPlace} (h : DataW.trod enc Tryz.prog W 0 (fun _ => true) true fuel 58 [c0, c1] = some y) :
    ∃ (x : Int) (a : Option Addr) (len cap : Nat) (l : List EvV), c0 = .int .i64 x ∧ c1 = .slice a len cap ∧ I64 x ∧ SlR REv W (· < W.heap.size) a len cap l := by
  obtain ⟨xs, n, _, e, hl, hlen, hg⟩ := DataW.trod_struct Tryz.underlying58 h
  match xs, hlen, hg with
  | [y0, y1], _, hg =>
    have h0 : DataW.trod enc Tryz.prog W 0 (fun _ => true) true n 3 (([c0, c1].drop 0).take (Tryz.prog.cellsOf 3)) = some y0 := hg 0 _ rfl
    have h1 : DataW.trod enc Tryz.prog W 0 (fun _ => true) true n 56 (([c0, c1].drop 1).take (Tryz.prog.cellsOf 56)) = some y1 := hg 1 _ rfl
    rw [show Tryz.prog.cellsOf 3 = 1 by kernel_rfl] at h0
    rw [show Tryz.prog.cellsOf 56 = 1 by kernel_rfl] at h1
    obtain ⟨k, e0, w0⟩ := opens_int H enc W n _ _ h0
    obtain ⟨q, A, c, ds, e2, hc, hm, hr, hk⟩ := opens_slice Tryz.underlying56 (by kernel_rfl) opens_ev H enc W n _ _ h1
    have e0' : c0 = .int .i64 k := by simpa [Rep.i64, Rep.cell] using e0
    have e2' : c1 = .slice A q.length c := by simpa using e2
    exact ⟨k, A, q.length, c, q, e0', e2', w0, rfl, hc, hm, ds, hr, hk⟩
theorem open_at2 {H : Type} {enc : TypeId × Value → H} {W : World} {r : Reach} {base : Nat} {v : Value} {d : DataW H} {p : List MemPlace} (hv : Value.okWide Tryz.prog W r base 59 v)
    (h : DataW.Trod enc Tryz.prog W 0 (fun _ => true) true 59 v d p) : ∃ (x : Int) (a : Option Addr) (n c : Nat) (l : List EvV) (x' : Int) (a' : Option Addr) (n' c' : Nat) (l' : List EvV),
      v = .agg #[.int .i64 x, .slice a n c, .int .i64 x', .slice a' n' c'] ∧ SlR REv W (· < W.heap.size) a n c l ∧ SlR REv W (· < W.heap.size) a' n' c' l' := by
  obtain ⟨⟨cs⟩, rfl, hs⟩ := okWide_array Tryz.underlying59 hv
  rw [show Tryz.prog.cellsOf 59 = 4 by kernel_rfl] at hs
  obtain ⟨fuel, hf⟩ := h
  match cs, hs, hf with
  | [c0, c1, c2, c3], _, hf =>
    obtain ⟨xs, n, _, e, hl, hlen, hg⟩ := DataW.trod_array Tryz.underlying59 hf
    match xs, hlen, hg with
    | [y0, y1], _, hg =>
      have h0 := hg 0 (by decide)
      have h1 := hg 1 (by decide)
      rw [show Tryz.prog.cellsOf 58 = 2 by kernel_rfl] at h0 h1
      obtain ⟨x, a, k, c, l, rfl, rfl, g1, g2⟩ := at_cells (c0 := c0) (c1 := c1) h0
      obtain ⟨x', a', k', c', l', rfl, rfl, g3, g4⟩ := at_cells (c0 := c2) (c1 := c3) h1
      exact ⟨x, a, k, c, l, x', a', k', c', l', rfl, g2, g4⟩
end Go.Proofs.YtakebdeldndaaaaGreatDoor

