/- From what a row's form says of an argument to the words of this seat's walks. -/
import Derived.Test.YtjfggfmhchoobaaBase
import Derived.Test.YtjfggfmhchoobaaProg
import Derived.ProofKit
import Derived.OpenShut
import Derived.ChangeOld
namespace Go.Proofs.Ytjfggfmhchoobaa
open Go Go.RowKit Go.ChangeShapes Go.WideShapes Go.ChangeAt

theorem ownKnob_none : ownKnob Try.prog.godebug = none := by kernel_rfl
theorem laid_out : laidOutB Try.prog = true := by kernel_rfl
theorem u8_cells : Try.prog.cellsOf 5 = 1 := by kernel_rfl

/-- A slice of bytes that came in. -/
structure InB (W : World) (a : Option Addr) (n c : Nat) (bs : List UInt8) : Prop where
  len : n = bs.length
  cap : n ≤ c
  max : c ≤ 9223372036854775807
  read : RB W a bs
theorem rb_of_ints {W : World} {x : Addr} {len : Nat} {zs : List Int} (hl : len ≤ zs.length) (hcell : ∀ i, i < zs.length → W.cell? (x.add i) = some (.int .u8 (zs.getD i 0))) (hwz : ∀ n ∈ zs, (Lit.int .u8 n).wf = true) :
    ∃ bs : List UInt8, len = bs.length ∧ RB W (some x) bs := by
  refine ⟨(zs.take len).map fun n => UInt8.ofNat n.toNat, by simp; omega, ?_⟩
  rcases Nat.eq_zero_or_pos len with h0 | h0
  · subst h0; exact .inl (by simp [bvs])
  · obtain ⟨b, off, spot⟩ := x
    have hc := hcell 0 (by omega)
    have hspot : spot = none := by simpa [Addr.add] using World.cell?_spot hc
    subst hspot
    refine .inr ⟨b, off, rfl, fun j v hv => ?_⟩
    have hj : j < len := by
      have := (List.getElem?_eq_some_iff.1 hv).1
      simp [bvs] at this
      omega
    have hc := hcell j (by omega)
    rw [Addr.add_lit] at hc
    rw [hc]
    have hz : zs[j]? = some zs[j] := List.getElem?_eq_getElem (by omega)
    have hw := bounds_u8 (hwz zs[j] (List.getElem_mem _))
    simp only [bvs, List.map_map, List.getElem?_map, List.getElem?_take, hj, if_true, hz, Option.map_some, Option.some.injEq, Function.comp, bv] at hv
    rw [← hv]
    simp only [List.getD, hz, Option.getD_some, Option.some.injEq, Value.int.injEq, true_and]
    rw [UInt8.toNat_ofNat']
    omega
theorem open_bytes {H : Type} {enc : TypeId × Value → H} {W : World} {a : Option Addr} {len cap : Nat} {d : DataW H} {p : List MemPlace}
    (h : DataW.Trod enc Try.prog W 0 (fun _ => true) true 22 (.slice a len cap) d p) : ∃ bs, InB W a len cap bs := by
  obtain ⟨fuel, hf⟩ := h
  rcases open_ints Try.underlying22 Try.underlying5 u8_cells hf with ⟨hcs, _⟩ | ⟨x, l, c, zs, hcs, _, hl, hm, hz, _, hcell, hwz⟩
  · simp [Value.cells] at hcs
    obtain ⟨rfl, rfl, rfl⟩ := hcs
    exact ⟨[], rfl, Nat.le_refl _, by omega, RB.nil _ _⟩
  · simp [Value.cells] at hcs
    obtain ⟨rfl, rfl, rfl⟩ := hcs
    simp only [if_true] at hz
    obtain ⟨bs, h1, h2⟩ := rb_of_ints (len := len) (by omega) hcell hwz
    exact ⟨bs, h1, hl, by simpa [maxLen] using hm, h2⟩
end Go.Proofs.Ytjfggfmhchoobaa
