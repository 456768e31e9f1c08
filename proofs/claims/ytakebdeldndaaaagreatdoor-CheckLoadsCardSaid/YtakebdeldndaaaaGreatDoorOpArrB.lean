/- Rows of bytes by value, and three numbers, that came in. -/
import Derived.Test.YtakebdeldndaaaaGreatDoorOp
namespace Go.Proofs.YtakebdeldndaaaaGreatDoor
open Go Go.RowKit Go.ChangeShapes Go.WideShapes Go.ChangeAt
set_option maxRecDepth 100000
set_option linter.constructorNameAsVariable false
set_option linter.unusedSimpArgs false
set_option linter.unusedVariables false
theorem slB_cells : Tryz.prog.cellsOf 23 = 1 := by kernel_rfl
theorem inB_of {W : World} {a : Option Addr} {n c : Nat} {bs : List UInt8} (h : SlR Rep.u8 W (· < W.heap.size) a n c bs) : InB W a n c bs := by
 obtain ⟨h1, h2, h3, cs, hr, hv⟩ := h
 refine ⟨h1, h2, h3, ?_⟩
 rw [rows_u8_eq hr] at hv
 rcases hv with hv | ⟨b, o, e, -, hv⟩
 ·exact .inl hv
 ·exact .inr ⟨b, o, e, hv⟩
theorem sls_of_array {H : Type} {enc : TypeId × Value → H} {W : World} {t : TypeId} {n : Nat} {cs : Array Value} {d : DataW H} {p : List MemPlace} (ht : Tryz.prog.underlying t = some (.array n 23))
  (h : DataW.Trod enc Tryz.prog W 0 (fun _ => true) true t (.agg cs) d p) : ∀ i, i < n → ∃ a len cap bs, cs[i]? = some (.slice a len cap) ∧ InB W a len cap bs := by
 intro i hi
 obtain ⟨fuel, hf⟩ := h
 obtain ⟨xs, m, -, -, -, hl, he⟩ := DataW.trod_array ht hf
 have h1 := he i hi
 rw [List.getElem?_eq_getElem (by omega)] at h1
 obtain ⟨q, A, c, ds, e2, hc, hm, hr, hk⟩ := opens_slice Tryz.underlying23 u8_cells opens_u8 H enc W m _ _ h1
 refine ⟨A, q.length, c, q, ?_, inB_of ⟨rfl, hc, hm, ds, hr, hk⟩⟩
 have h2 := congrArg (fun l : List Value => l[0]?) e2
 simp only [slB_cells, Nat.mul_one, List.getElem?_take, List.getElem?_drop, Nat.zero_lt_one, if_true, Nat.add_zero] at h2
 simpa [Value.cells] using h2
theorem open_sl3 {H : Type} {enc : TypeId × Value → H} {W : World} {r : Reach} {base : Nat} {v : Value} {d : DataW H} {p : List MemPlace}
  (hv : Value.okWide Tryz.prog W r base 45 v) (h : DataW.Trod enc Tryz.prog W 0 (fun _ => true) true 45 v d p) : ∃ a n c b a' n' c' b' a'' n'' c'' b'', v = .agg #[.slice a n c, .slice a' n' c', .slice a'' n'' c''] ∧ InB W a n c b ∧ InB W a' n' c' b' ∧ InB W a'' n'' c'' b'' := by
 obtain ⟨cs, rfl, hs⟩ := okWide_array Tryz.underlying45 hv
 have hb := sls_of_array Tryz.underlying45 h
 obtain ⟨a, n, c, b, hx, hx1⟩ := hb 0 (by omega)
 obtain ⟨a', n', c', b', hy, hy1⟩ := hb 1 (by omega)
 obtain ⟨a'', n'', c'', b'', hz, hz1⟩ := hb 2 (by omega)
 rw [show Tryz.prog.cellsOf 45 = 3 by kernel_rfl] at hs
 refine ⟨a, n, c, b, a', n', c', b', a'', n'', c'', b'', ?_, hx1, hy1, hz1⟩
 congr 1
 apply Array.ext_getElem?
 intro i
 match i with
 | 0 => rw [hx]; rfl
 | 1 => rw [hy]; rfl
 | 2 => rw [hz]; rfl
 | i + 3 => rw [Array.getElem?_eq_none (by omega)]; rfl
theorem open_int3 {H : Type} {enc : TypeId × Value → H} {W : World} {r : Reach} {base : Nat} {v : Value} {d : DataW H} {p : List MemPlace}
  (hv : Value.okWide Tryz.prog W r base 46 v) (h : DataW.Trod enc Tryz.prog W 0 (fun _ => true) true 46 v d p) : ∃ x y z : Int, v = .agg #[.int .i64 x, .int .i64 y, .int .i64 z] ∧ I64 x ∧ I64 y ∧ I64 z := by
 obtain ⟨cs, rfl, hs⟩ := okWide_array Tryz.underlying46 hv
 have hb := ints_of_array Tryz.underlying46 h
 obtain ⟨x, hx, hx1⟩ := hb 0 (by omega)
 obtain ⟨y, hy, hy1⟩ := hb 1 (by omega)
 obtain ⟨z, hz, hz1⟩ := hb 2 (by omega)
 rw [show Tryz.prog.cellsOf 46 = 3 by kernel_rfl] at hs
 refine ⟨x, y, z, ?_, hx1, hy1, hz1⟩
 congr 1
 apply Array.ext_getElem?
 intro i
 match i with
 | 0 => rw [hx]; rfl
 | 1 => rw [hy]; rfl
 | 2 => rw [hz]; rfl
 | i + 3 => rw [Array.getElem?_eq_none (by omega)]; rfl
end Go.Proofs.YtakebdeldndaaaaGreatDoor
