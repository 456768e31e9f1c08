/- What a row's form says of an argument, read as a kind of XRep: slices of anything, structs, strings. -/
import Derived.Test.YtjfggfmhchoobaaRep
import Derived.Test.YtjfggfmhchoobaaOpen
import Derived.ChangeArms
namespace Go.Proofs.Ytjfggfmhchoobaa
open Go Go.RowKit Go.ChangeShapes Go.WideShapes Go.ChangeAt
set_option linter.unusedSimpArgs false
set_option linter.unusedVariables false

def Opens {α : Type} (R : Rep α) (t : TypeId) : Prop :=
  ∀ (H : Type) (enc : TypeId × Value → H) (W : World) (fuel : Nat) (cs : List Value) (x : DataW H × List MemPlace), DataW.trod enc Try.prog W 0 (fun _ => true) true fuel t cs = some x → ∃ a, R.rel W (· < W.heap.size) a cs
theorem addr_add (a : Addr) (i j : Nat) : (a.add i).add j = a.add (i + j) := by
  unfold Addr.add
  by_cases hi : i = 0
  · subst hi; simp
  · by_cases hj : j = 0
    · subst hj; simp [hi]
    · simp [hi, hj, Nat.add_assoc]
theorem rows_read {α : Type} {R : Rep α} {W : World} {a : Addr} {K : Nat → Prop} : ∀ (n : Nat) (h : ∀ i, i < n → ∃ x ds, W.cells? 0 (a.add (i * R.size)) R.size = some ds ∧ R.rel W K x ds),
    ∃ xs cs, xs.length = n ∧ Rows R W K xs cs ∧ ∀ j, j < n * R.size → W.cell? (a.add j) = cs[j]?
  | 0, _ => ⟨[], [], rfl, rfl, by simp⟩
  | n + 1, h => by
    obtain ⟨xs, cs, hl, hr, hc⟩ := rows_read n fun i hi => h i (by omega)
    obtain ⟨x, ds, hd, hx⟩ := h n (by omega)
    refine ⟨xs ++ [x], cs ++ ds, by simp [hl], hr.append (Rows.single hx), fun j hj => ?_⟩
    have hcl : cs.length = n * R.size := by rw [hr.len, hl]
    by_cases hjn : j < n * R.size
    · rw [List.getElem?_append_left (by omega)]; exact hc j hjn
    · rw [List.getElem?_append_right (by omega), hcl]
      have hs : (n + 1) * R.size = n * R.size + R.size := by rw [Nat.add_mul, Nat.one_mul]
      have := (World.cells?_some hd).2.2 (j - n * R.size) (by omega)
      rw [addr_add, show n * R.size + (j - n * R.size) = j by omega] at this
      exact this
theorem opens_slice {α : Type} {R : Rep α} {t e : TypeId} (ht : Try.prog.underlying t = some (.slice e)) (hc : Try.prog.cellsOf e = R.size) (ho : Opens R e) : Opens (Rep.slice R) t := by
  intro H enc W fuel cs x h
  rcases DataW.trod_slice ht h with ⟨rfl, -⟩ | ⟨a, len, cap, elems, rest, n, -, rfl, -, -, hle, hm, hel, hread, -⟩
  · exact ⟨[], none, 0, [], rfl, Nat.le_refl _, by omega, rfl, .inl rfl⟩
  · obtain ⟨xs, ds, hl, hr, hcell⟩ := rows_read (R := R) (W := W) (a := a) (K := (· < W.heap.size)) len fun i hi => by
      have h1 := hread i hi
      rw [List.getElem?_eq_getElem (by omega), hc] at h1
      obtain ⟨ds, hd, hx⟩ := Option.bind_eq_some_iff.1 h1
      obtain ⟨x, hx⟩ := ho H enc W _ _ _ hx
      exact ⟨x, ds, hd, hx⟩
    refine ⟨xs, some a, cap, ds, by rw [hl], by omega, by simpa [maxLen] using hm, hr, ?_⟩
    have hdl : ds.length = len * R.size := by rw [hr.len, hl]
    by_cases h0 : ds = []
    · exact .inl h0
    · obtain ⟨b, off, spot⟩ := a
      have hpos : 0 < ds.length := List.length_pos_iff.2 h0
      have hc0 := hcell 0 (by omega)
      rw [List.getElem?_eq_getElem hpos] at hc0
      have hspot : spot = none := by simpa [Addr.add] using World.cell?_spot hc0
      subst hspot
      refine .inr ⟨b, off, rfl, ?_, fun j v hv => ?_⟩
      · have := World.block_lt_of_cell? W _ hc0
        simpa [Addr.add] using this
      · have hj : j < ds.length := (List.getElem?_eq_some_iff.1 hv).1
        have := hcell j (by omega)
        rw [Addr.add_lit] at this
        rw [this]; exact hv
theorem opens_u8 : Opens Rep.u8 5 := by
  intro H enc W fuel cs x h
  obtain ⟨n, rfl, -, hw⟩ := DataW.trod_int Try.underlying5 h
  obtain ⟨b, rfl⟩ := byte_of_wf hw
  exact ⟨b, rfl⟩
theorem opens_bytes : Opens (Rep.slice Rep.u8) 22 := opens_slice Try.underlying22 u8_cells opens_u8
/-- A slice of anything that came in. -/
theorem open_slR {α : Type} {R : Rep α} {t e : TypeId} (ht : Try.prog.underlying t = some (.slice e)) (hc : Try.prog.cellsOf e = R.size) (ho : Opens R e)
    {H : Type} {enc : TypeId × Value → H} {W : World} {a : Option Addr} {len cap : Nat} {d : DataW H} {p : List MemPlace}
    (h : DataW.Trod enc Try.prog W 0 (fun _ => true) true t (.slice a len cap) d p) : ∃ xs, SlR R W (· < W.heap.size) a len cap xs := by
  obtain ⟨fuel, hf⟩ := h
  obtain ⟨xs, A, c, ds, e, h1, h2, h3, h4⟩ := opens_slice ht hc ho H enc W fuel _ _ hf
  simp [Value.cells] at e
  obtain ⟨rfl, rfl, rfl⟩ := e
  exact ⟨xs, rfl, h1, h2, ds, h3, h4⟩
end Go.Proofs.Ytjfggfmhchoobaa
