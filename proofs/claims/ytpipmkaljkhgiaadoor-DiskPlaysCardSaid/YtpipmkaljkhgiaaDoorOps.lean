/- Calls as arguments: what the row's form says of a row of them. -/
import Derived.Test.YtpipmkaljkhgiaaDoorDoes
import Derived.Test.YtpipmkaljkhgiaaDoorFound
namespace Go.Proofs.YtpipmkaljkhgiaaDoor
open Go Go.RowKit Go.ChangeShapes Go.WideShapes Go.ChangeAt
set_option maxRecDepth 100000
set_option linter.unusedSimpArgs false
set_option linter.unusedVariables false

structure OpV where
  kd : Int
  n : Int
  nm : List UInt8
  to : List UInt8
  b : List UInt8
structure OpOk (o : OpV) : Prop where
  kd : -9223372036854775808 ≤ o.kd ∧ o.kd ≤ 9223372036854775807
  n : -9223372036854775808 ≤ o.n ∧ o.n ≤ 9223372036854775807
  nm : o.nm.length ≤ 9223372036854775807
  to : o.to.length ≤ 9223372036854775807
/-- A kind, narrowed. -/
def Rep.such {α : Type} (R : Rep α) (p : α → Prop) : Rep α where
  size := R.size
  rel := fun w K x cs => R.rel w K x cs ∧ p x
  len := fun h => R.len h.1
  one := fun h => R.one h.1
  ext := fun h hk => ⟨R.ext h.1 hk, h.2⟩
  mono := fun h hk => ⟨R.mono h.1 hk, h.2⟩
def ROp : Rep OpV := Rep.such (Rep.of (Rep.pair Rep.i64 (Rep.pair Rep.i64 (Rep.pair Rep.str (Rep.pair Rep.str (Rep.slice Rep.u8))))) fun o => (o.kd, o.n, o.nm, o.to, o.b)) OpOk
theorem rop_rel {w : World} {K : Nat → Prop} {o : OpV} {cs : List Value} (h : ROp.rel w K o cs) : ∃ A c, cs = [.int .i64 o.kd, .int .i64 o.n, strV o.nm, strV o.to, .slice A o.b.length c] ∧ o.b.length ≤ c ∧ c ≤ 9223372036854775807 ∧ RK w K A (bvs o.b) ∧ OpOk o := by
  obtain ⟨⟨a, d, rfl, h1, a2, d2, rfl, h2, a3, d3, rfl, h3, a4, d4, rfl, h4, A, c, ds, h5, hc, hm, hr, hk⟩, hp⟩ := h
  refine ⟨A, c, ?_, hc, hm, by rw [← rows_u8_eq hr]; exact hk, hp⟩
  rw [show a = [.int .i64 o.kd] from h1, show a2 = [.int .i64 o.n] from h2, show a3 = [strV o.nm] from h3, show a4 = [strV o.to] from h4, h5]; rfl
theorem int_range {n : Int} (hw : (Lit.int .i64 n).wf = true) : -9223372036854775808 ≤ n ∧ n ≤ 9223372036854775807 := by
  simp [Lit.wf, IntKind.min, IntKind.max, IntKind.signed, IntKind.bits] at hw
  omega
theorem op_cells : Tryd.prog.cellsOf 46 = 5 := by kernel_rfl
theorem str_of (s : ByteArray) : ∃ x : List UInt8, s = str x ∧ x.length = s.size := ⟨s.data.toList, by cases s; rfl, by cases s; rfl⟩
theorem int_cells : Tryd.prog.cellsOf 3 = 1 := by kernel_rfl
theorem string_cells : Tryd.prog.cellsOf 9 = 1 := by kernel_rfl
theorem bytes_cells : Tryd.prog.cellsOf 22 = 1 := by kernel_rfl
theorem opens_op : Opens ROp 46 := by
  intro H enc W fuel cs x h
  obtain ⟨xs, n, _, rfl, hl, hlen, hf⟩ := DataW.trod_struct Tryd.underlying46 h
  rw [op_cells] at hl
  match cs, hl, hf with
  | [c0, c1, c2, c3, c4], _, hf =>
    match xs, hlen, hf with
    | [y0, y1, y2, y3, y4], _, hf =>
      have h0 : DataW.trod enc Tryd.prog W 0 (fun _ => true) true n 3 (([c0, c1, c2, c3, c4].drop 0).take (Tryd.prog.cellsOf 3)) = some y0 := hf 0 _ rfl
      have h1 : DataW.trod enc Tryd.prog W 0 (fun _ => true) true n 3 (([c0, c1, c2, c3, c4].drop 1).take (Tryd.prog.cellsOf 3)) = some y1 := hf 1 _ rfl
      have h2 : DataW.trod enc Tryd.prog W 0 (fun _ => true) true n 9 (([c0, c1, c2, c3, c4].drop 2).take (Tryd.prog.cellsOf 9)) = some y2 := hf 2 _ rfl
      have h3 : DataW.trod enc Tryd.prog W 0 (fun _ => true) true n 9 (([c0, c1, c2, c3, c4].drop 3).take (Tryd.prog.cellsOf 9)) = some y3 := hf 3 _ rfl
      have h4 : DataW.trod enc Tryd.prog W 0 (fun _ => true) true n 22 (([c0, c1, c2, c3, c4].drop 4).take (Tryd.prog.cellsOf 22)) = some y4 := hf 4 _ rfl
      rw [int_cells] at h0 h1
      rw [string_cells] at h2 h3
      rw [bytes_cells] at h4
      obtain ⟨k, e0, -, w0⟩ := DataW.trod_int Tryd.underlying3 h0
      obtain ⟨j, e1, -, w1⟩ := DataW.trod_int Tryd.underlying3 h1
      obtain ⟨s, e2, -, w2⟩ := DataW.trod_string Tryd.underlying9 h2
      obtain ⟨t, e3, -, w3⟩ := DataW.trod_string Tryd.underlying9 h3
      obtain ⟨bs, A, c, ds, e4, hc, hm, hr, hk⟩ := opens_bytes H enc W n _ _ h4
      obtain ⟨s', rfl, hs'⟩ := str_of s
      obtain ⟨t', rfl, ht'⟩ := str_of t
      have e0' : c0 = .int .i64 k := by simpa using e0
      have e1' : c1 = .int .i64 j := by simpa using e1
      have e2' : c2 = strV s' := by simpa [strV] using e2
      have e3' : c3 = strV t' := by simpa [strV] using e3
      have e4' : c4 = .slice A bs.length c := by simpa using e4
      subst e0' e1' e2' e3' e4'
      simp only [maxLen] at w2 w3
      exact ⟨⟨k, j, s', t', bs⟩, ⟨_, _, rfl, rfl, _, _, rfl, rfl, _, _, rfl, rfl, _, _, rfl, rfl, A, c, ds, rfl, hc, hm, hr, hk⟩, ⟨int_range w0, int_range w1, by show s'.length ≤ _; omega, by show t'.length ≤ _; omega⟩⟩
theorem rest_cells : Tryd.prog.cellsOf 42 = 2 := by kernel_rfl
theorem ops_cells : Tryd.prog.cellsOf 40 = 1 := by kernel_rfl
theorem opens_ops : Opens (Rep.slice ROp) 40 := opens_slice Tryd.underlying40 op_cells opens_op
/-- A row of calls that came in. -/
theorem open_ops {H : Type} {enc : TypeId × Value → H} {W : World} {a : Option Addr} {len cap : Nat} {d : DataW H} {p : List MemPlace}
    (h : DataW.Trod enc Tryd.prog W 0 (fun _ => true) true 40 (.slice a len cap) d p) : ∃ xs, SlR ROp W (· < W.heap.size) a len cap xs :=
  open_slR Tryd.underlying40 op_cells opens_op h
/-- How many are kept, and calls. -/
theorem open_rest {H : Type} {enc : TypeId × Value → H} {W : World} {cs : Array Value} {d : DataW H} {p : List MemPlace} (hs : cs.size = 2)
    (h : DataW.Trod enc Tryd.prog W 0 (fun _ => true) true 42 (.agg cs) d p) : ∃ (x : Int) (a : Option Addr) (len cap : Nat) (xs : List OpV), cs = #[.int .i64 x, .slice a len cap] ∧ (-9223372036854775808 ≤ x ∧ x ≤ 9223372036854775807) ∧ SlR ROp W (· < W.heap.size) a len cap xs := by
  obtain ⟨fuel, hf⟩ := h
  obtain ⟨cs⟩ := cs
  match cs, hs, hf with
  | [c0, c1], _, hf =>
    obtain ⟨xs, n, _, e, hl, hlen, hg⟩ := DataW.trod_struct Tryd.underlying42 hf
    match xs, hlen, hg with
    | [y0, y1], _, hg =>
      have h0 : DataW.trod enc Tryd.prog W 0 (fun _ => true) true n 3 (((Value.cells (.agg ⟨[c0, c1]⟩)).toList.drop 0).take (Tryd.prog.cellsOf 3)) = some y0 := hg 0 _ rfl
      have h1 : DataW.trod enc Tryd.prog W 0 (fun _ => true) true n 40 (((Value.cells (.agg ⟨[c0, c1]⟩)).toList.drop 1).take (Tryd.prog.cellsOf 40)) = some y1 := hg 1 _ rfl
      rw [int_cells] at h0
      rw [ops_cells] at h1
      obtain ⟨k, e0, -, w0⟩ := DataW.trod_int Tryd.underlying3 h0
      obtain ⟨os, A, c, ds, e1, hc, hm, hr, hk⟩ := opens_ops H enc W n _ _ h1
      have e0' : c0 = .int .i64 k := by simpa [Value.cells] using e0
      have e1' : c1 = .slice A os.length c := by simpa [Value.cells] using e1
      subst e0' e1'
      exact ⟨k, A, os.length, c, os, rfl, int_range w0, rfl, hc, hm, ds, hr, hk⟩
end Go.Proofs.YtpipmkaljkhgiaaDoor
