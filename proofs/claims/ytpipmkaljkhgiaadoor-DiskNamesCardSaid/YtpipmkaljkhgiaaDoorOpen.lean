/- From what a row's form says of an argument to the words of this seat's walks. -/
import Derived.Test.YtpipmkaljkhgiaaDoorBase
import Derived.Test.YtpipmkaljkhgiaaDoorProg
import Derived.ProofKit
import Derived.OpenShut
import Derived.ChangeOld
namespace Go.Proofs.YtpipmkaljkhgiaaDoor
open Go Go.RowKit Go.ChangeShapes Go.WideShapes Go.ChangeAt
set_option maxRecDepth 100000

theorem ownKnob_none : ownKnob Tryd.prog.godebug = none := by kernel_rfl
theorem laid_out : laidOutB Tryd.prog = true := by kernel_rfl
theorem u8_cells : Tryd.prog.cellsOf 5 = 1 := by kernel_rfl

/-- A slice of bytes that came in. -/
structure InB (W : World) (a : Option Addr) (n c : Nat) (bs : List UInt8) : Prop where
  len : n = bs.length
  cap : n ≤ c
  max : c ≤ 9223372036854775807
  read : RB W a bs
theorem rb_of_ints {W : World} {x : Addr} {len : Nat} {zs : List Int} (hl : len ≤ zs.length) (hcell : ∀ i, i < zs.length → W.cell? (x.add i) = some (.int .u8 (zs.getD i 0))) (hwz : ∀ n ∈ zs, (Lit.int .u8 n).wf = true) :
    ∃ bs : List UInt8, len = bs.length ∧ RB W (some x) bs := by
  refine ⟨(zs.take len).map fun n => UInt8.ofNat n.toNat, by simp; omega, ?_⟩
  rcases Nat.eq_zero_or_pos len with h0 | h0
  · subst h0; exact .inl (by simp [bvs])
  · obtain ⟨b, off, spot⟩ := x
    have hc := hcell 0 (by omega)
    have hspot : spot = none := by simpa [Addr.add] using World.cell?_spot hc
    subst hspot
    refine .inr ⟨b, off, rfl, fun j v hv => ?_⟩
    have hj : j < len := by
      have := (List.getElem?_eq_some_iff.1 hv).1
      simp [bvs] at this
      omega
    have hc := hcell j (by omega)
    rw [Addr.add_lit] at hc
    rw [hc]
    have hz : zs[j]? = some zs[j] := List.getElem?_eq_getElem (by omega)
    have hw := bounds_u8 (hwz zs[j] (List.getElem_mem _))
    simp only [bvs, List.map_map, List.getElem?_map, List.getElem?_take, hj, if_true, hz, Option.map_some, Option.some.injEq, Function.comp, bv] at hv
    rw [← hv]
    simp only [List.getD, hz, Option.getD_some, Option.some.injEq, Value.int.injEq, true_and]
    rw [UInt8.toNat_ofNat']
    omega
theorem open_bytes {H : Type} {enc : TypeId × Value → H} {W : World} {a : Option Addr} {len cap : Nat} {d : DataW H} {p : List MemPlace}
    (h : DataW.Trod enc Tryd.prog W 0 (fun _ => true) true 22 (.slice a len cap) d p) : ∃ bs, InB W a len cap bs := by
  obtain ⟨fuel, hf⟩ := h
  rcases open_ints Tryd.underlying22 Tryd.underlying5 u8_cells hf with ⟨hcs, _⟩ | ⟨x, l, c, zs, hcs, _, hl, hm, hz, _, hcell, hwz⟩
  · simp [Value.cells] at hcs
    obtain ⟨rfl, rfl, rfl⟩ := hcs
    exact ⟨[], rfl, Nat.le_refl _, by omega, RB.nil _ _⟩
  · simp [Value.cells] at hcs
    obtain ⟨rfl, rfl, rfl⟩ := hcs
    simp only [if_true] at hz
    obtain ⟨bs, h1, h2⟩ := rb_of_ints (len := len) (by omega) hcell hwz
    exact ⟨bs, h1, hl, by simpa [maxLen] using hm, h2⟩
theorem byte_of_wf {n : Int} (h : (Lit.int .u8 n).wf = true) : ∃ b : UInt8, n = (b.toNat : Int) := by
  have := bounds_u8 h
  exact ⟨UInt8.ofNat n.toNat, by rw [UInt8.toNat_ofNat']; omega⟩
theorem open_u8 {H : Type} {enc : TypeId × Value → H} {W : World} {r : Reach} {base : Nat} {v : Value} {d : DataW H} {p : List MemPlace}
    (hv : Value.okWide Tryd.prog W r base 5 v) (h : DataW.Trod enc Tryd.prog W 0 (fun _ => true) true 5 v d p) : ∃ b : UInt8, v = .int .u8 (b.toNat : Int) := by
  obtain ⟨n, rfl, -, -, hw⟩ := open_int Tryd.underlying5 hv h
  obtain ⟨b, rfl⟩ := byte_of_wf hw
  exact ⟨b, rfl⟩
theorem open_i64 {H : Type} {enc : TypeId × Value → H} {W : World} {r : Reach} {base : Nat} {v : Value} {d : DataW H} {p : List MemPlace}
    (hv : Value.okWide Tryd.prog W r base 3 v) (h : DataW.Trod enc Tryd.prog W 0 (fun _ => true) true 3 v d p) : ∃ x : Int, v = .int .i64 x ∧ (-9223372036854775808 ≤ x ∧ x ≤ 9223372036854775807) := by
  obtain ⟨n, rfl, -, -, hw⟩ := open_int Tryd.underlying3 hv h
  refine ⟨n, rfl, ?_⟩
  simp [Lit.wf, IntKind.min, IntKind.max, IntKind.signed, IntKind.bits] at hw
  omega
theorem okWide_array {P : Program} {w : World} {r : Reach} {base n : Nat} {t e : TypeId} {v : Value} (ht : P.underlying t = some (.array n e)) (h : Value.okWide P w r base t v) : ∃ cs, v = .agg cs ∧ cs.size = P.cellsOf t := by
  simp only [Value.okWide, ht] at h
  obtain ⟨cs, h1, h2, _⟩ := h
  exact ⟨cs, h1, h2⟩
/-- An array of bytes by value. -/
theorem bytes_of_array {H : Type} {enc : TypeId × Value → H} {W : World} {t : TypeId} {n : Nat} {cs : Array Value} {d : DataW H} {p : List MemPlace} (ht : Tryd.prog.underlying t = some (.array n 5))
    (h : DataW.Trod enc Tryd.prog W 0 (fun _ => true) true t (.agg cs) d p) : ∀ i, i < n → ∃ b : UInt8, cs[i]? = some (.int .u8 (b.toNat : Int)) := by
  intro i hi
  obtain ⟨fuel, hf⟩ := h
  obtain ⟨xs, m, -, -, -, hl, he⟩ := DataW.trod_array ht hf
  have h1 := he i hi
  rw [List.getElem?_eq_getElem (by omega)] at h1
  obtain ⟨k, hk, -, hw⟩ := DataW.trod_int Tryd.underlying5 h1
  obtain ⟨b, rfl⟩ := byte_of_wf hw
  refine ⟨b, ?_⟩
  have h2 := congrArg (fun l : List Value => l[0]?) hk
  simp only [u8_cells, Nat.mul_one, List.getElem?_take, List.getElem?_drop, Nat.zero_lt_one, if_true, Nat.add_zero, List.getElem?_cons_zero] at h2
  simpa [Value.cells] using h2
end Go.Proofs.YtpipmkaljkhgiaaDoor
