/- Events, clauses, entries, definitions as arguments of a row. -/
import Derived.Test.YtakebdeldndaaaaGreatFound
import Derived.Test.YtakebdeldndaaaaGreatEvM
namespace Go.Proofs.YtakebdeldndaaaaGreat
open Go Go.RowKit Go.ChangeShapes Go.WideShapes Go.ChangeAt
set_option maxRecDepth 100000
set_option linter.unusedSimpArgs false
set_option linter.unusedVariables false

def Rep.such {α : Type} (R : Rep α) (p : α → Prop) : Rep α where
  size := R.size
  rel := fun w K x cs => R.rel w K x cs ∧ p x
  len := fun h => R.len h.1
  one := fun h => R.one h.1
  ext := fun h hk => ⟨R.ext h.1 hk, h.2⟩
  mono := fun h hk => ⟨R.mono h.1 hk, h.2⟩
theorem rows_such {α : Type} {R : Rep α} {p : α → Prop} {w : World} {K : Nat → Prop} : ∀ {xs : List α} {cs : List Value}, Rows (Rep.such R p) w K xs cs → Rows R w K xs cs ∧ ∀ x ∈ xs, p x
  | [], _, h => ⟨h, by simp⟩
  | x :: xs, _, ⟨c, r, e, hc, hr⟩ => by
    obtain ⟨h1, h2⟩ := rows_such hr
    exact ⟨⟨c, r, e, hc.1, h1⟩, fun y hy => by rcases List.mem_cons.1 hy with rfl | hy; exact hc.2; exact h2 y hy⟩
theorem slR_such {α : Type} {R : Rep α} {p : α → Prop} {w : World} {K : Nat → Prop} {A : Option Addr} {n c : Nat} {xs : List α} (h : SlR (Rep.such R p) w K A n c xs) : SlR R w K A n c xs ∧ ∀ x ∈ xs, p x := by
  obtain ⟨h1, h2, h3, cs, hr, hv⟩ := h
  obtain ⟨g1, g2⟩ := rows_such hr
  exact ⟨⟨h1, h2, h3, cs, g1, hv⟩, g2⟩
def I64 (n : Int) : Prop := -9223372036854775808 ≤ n ∧ n ≤ 9223372036854775807
theorem int_range {n : Int} (hw : (Lit.int .i64 n).wf = true) : I64 n := by
  simp [Lit.wf, IntKind.min, IntKind.max, IntKind.signed, IntKind.bits] at hw
  unfold I64
  omega
theorem opens_int : Opens (Rep.such Rep.i64 I64) 3 := by
  intro H enc W fuel cs x h
  obtain ⟨n, rfl, -, hw⟩ := DataW.trod_int Tryz.underlying3 h
  exact ⟨n, rfl, int_range hw⟩
theorem str_of (s : ByteArray) : ∃ x : List UInt8, s = str x ∧ x.length = s.size := ⟨s.data.toList, by cases s; rfl, by cases s; rfl⟩
theorem opens_txt : Opens Rep.txt 9 := by
  intro H enc W fuel cs x h
  obtain ⟨s, rfl, -, hw⟩ := DataW.trod_string Tryz.underlying9 h
  obtain ⟨y, rfl, hy⟩ := str_of s
  simp only [maxLen] at hw
  exact ⟨y, rfl, by show y.length ≤ _; omega⟩
/-- A struct of two parts. -/
theorem opens_two {α β : Type} {R1 : Rep α} {R2 : Rep β} {t : TypeId} {f0 f1 : Field} (ht : Tryz.prog.underlying t = some (.struct #[f0, f1])) (o0 : f0.offset = 0) (o1 : f1.offset = R1.size)
    (h1 : Opens R1 f0.type) (c1 : Tryz.prog.cellsOf f0.type = R1.size) (h2 : Opens R2 f1.type) (c2 : Tryz.prog.cellsOf f1.type = R2.size) (hc : Tryz.prog.cellsOf t = R1.size + R2.size) : Opens (Rep.pair R1 R2) t := by
  intro H enc W fuel cs x h
  obtain ⟨y0, y1, n, -, hl, g0, g1⟩ := trod_struct2 ht h
  rw [o0, c1, List.drop_zero] at g0
  rw [o1, c2] at g1
  obtain ⟨a, ha⟩ := h1 H enc W _ _ _ g0
  obtain ⟨b, hb⟩ := h2 H enc W _ _ _ g1
  rw [hc] at hl
  refine ⟨(a, b), cs.take R1.size, (cs.drop R1.size).take R2.size, ?_, ha, hb⟩
  rw [List.take_of_length_le (l := cs.drop R1.size) (by rw [List.length_drop]; omega), List.take_append_drop]
/-- Four parts. -/
theorem opens_four {α β γ δ : Type} {R0 : Rep α} {R1 : Rep β} {R2 : Rep γ} {R3 : Rep δ} {t : TypeId} {f0 f1 f2 f3 : Field} (ht : Tryz.prog.underlying t = some (.struct #[f0, f1, f2, f3])) (o0 : f0.offset = 0) (o1 : f1.offset = R0.size) (o2 : f2.offset = R0.size + R1.size) (o3 : f3.offset = R0.size + R1.size + R2.size)
    (h0 : Opens R0 f0.type) (c0 : Tryz.prog.cellsOf f0.type = R0.size) (h1 : Opens R1 f1.type) (c1 : Tryz.prog.cellsOf f1.type = R1.size) (h2 : Opens R2 f2.type) (c2 : Tryz.prog.cellsOf f2.type = R2.size) (h3 : Opens R3 f3.type) (c3 : Tryz.prog.cellsOf f3.type = R3.size)
    (hc : Tryz.prog.cellsOf t = R0.size + R1.size + R2.size + R3.size) : Opens (Rep.pair R0 (Rep.pair R1 (Rep.pair R2 R3))) t := by
  intro H enc W fuel cs x h
  obtain ⟨xs, n, _, rfl, hl, hlen, hf⟩ := DataW.trod_struct ht h
  match xs, hlen, hf with
  | [y0, y1, y2, y3], _, hf =>
    have g0 := hf 0 f0 rfl
    have g1 := hf 1 f1 rfl
    have g2 := hf 2 f2 rfl
    have g3 := hf 3 f3 rfl
    rw [o0, c0, List.drop_zero] at g0
    rw [o1, c1] at g1
    rw [o2, c2] at g2
    rw [o3, c3] at g3
    obtain ⟨a, ha⟩ := h0 H enc W _ _ _ g0
    obtain ⟨b, hb⟩ := h1 H enc W _ _ _ g1
    obtain ⟨c, hcc⟩ := h2 H enc W _ _ _ g2
    obtain ⟨d, hd⟩ := h3 H enc W _ _ _ g3
    rw [hc] at hl
    refine ⟨(a, b, c, d), _, (cs.drop R0.size), ?_, ha, _, (cs.drop (R0.size + R1.size)), ?_, hb, _, _, ?_, hcc, hd⟩
    · rw [List.take_append_drop]
    · rw [← List.drop_drop, List.take_append_drop]
    · rw [List.take_of_length_le (l := cs.drop (R0.size + R1.size + R2.size)) (by rw [List.length_drop]; omega), ← List.drop_drop (i := R2.size), List.take_append_drop]
def REntI : Rep (Str × Int) := Rep.such RField fun p => I64 p.2
theorem opens_ent : Opens REntI 118 := by
  intro H enc W fuel cs x h
  obtain ⟨a, c, d, e, h1, h2, h3⟩ := opens_two (R1 := Rep.txt) (R2 := Rep.such Rep.i64 I64) Tryz.underlying118 rfl rfl opens_txt (by kernel_rfl) opens_int (by kernel_rfl) (by kernel_rfl) H enc W fuel cs x h
  exact ⟨a, ⟨c, d, e, h1, h2⟩, h3⟩
theorem opens_field : Opens RField 101 := by
  intro H enc W fuel cs x h
  obtain ⟨a, c, d, e, h1, h2, h3⟩ := opens_two (R1 := Rep.txt) (R2 := Rep.such Rep.i64 I64) Tryz.underlying101 rfl rfl opens_txt (by kernel_rfl) opens_int (by kernel_rfl) (by kernel_rfl) H enc W fuel cs x h
  exact ⟨a, c, d, e, h1, h2⟩
theorem opens_txts : Opens RTags 43 := opens_slice Tryz.underlying43 (by kernel_rfl) opens_txt
theorem opens_fields : Opens RFields 60 := opens_slice Tryz.underlying60 (by kernel_rfl) opens_field
theorem opens_ev : Opens REv 62 := by
  intro H enc W fuel cs x h
  obtain ⟨⟨a, b, c, d⟩, h⟩ := opens_four (R0 := Rep.txt) (R1 := Rep.txt) (R2 := RTags) (R3 := RFields) Tryz.underlying62 rfl rfl rfl rfl opens_txt (by kernel_rfl) opens_txt (by kernel_rfl) opens_txts (by kernel_rfl) opens_fields (by kernel_rfl) (by kernel_rfl) H enc W fuel cs x h
  exact ⟨⟨a, b, c, d⟩, h⟩
theorem opens_cl : Opens RCl 45 := by
  intro H enc W fuel cs x h
  obtain ⟨⟨a, b⟩, h⟩ := opens_two (R1 := RTags) (R2 := RTags) Tryz.underlying45 rfl rfl opens_txts (by kernel_rfl) opens_txts (by kernel_rfl) (by kernel_rfl) H enc W fuel cs x h
  exact ⟨⟨a, b⟩, h⟩
theorem opens_cls : Opens RCls 46 := opens_slice Tryz.underlying46 (by kernel_rfl) opens_cl
/-- A text that came in. -/
theorem open_txt {H : Type} {enc : TypeId × Value → H} {W : World} {r : Reach} {base : Nat} {v : Value} {d : DataW H} {p : List MemPlace}
    (hv : Value.okWide Tryz.prog W r base 9 v) (h : DataW.Trod enc Tryz.prog W 0 (fun _ => true) true 9 v d p) : ∃ s : Str, v = .string (str s) ∧ Short s := by
  obtain ⟨fuel, hf⟩ := h
  obtain ⟨b, rfl⟩ := okWide_string Tryz.underlying9 hv
  obtain ⟨s, e, -, hw⟩ := DataW.trod_string Tryz.underlying9 hf
  simp [Value.cells] at e
  subst e
  obtain ⟨y, rfl, hy⟩ := str_of b
  simp only [maxLen] at hw
  exact ⟨y, rfl, by show y.length ≤ _; omega⟩
theorem okWide_struct {P : Program} {w : World} {r : Reach} {base : Nat} {t : TypeId} {fs : Array Field} {v : Value} (ht : P.underlying t = some (.struct fs)) (h : Value.okWide P w r base t v) : ∃ cs, v = .agg cs ∧ cs.size = P.cellsOf t := by
  simp only [Value.okWide, ht] at h
  cases v <;> simp at h
  exact ⟨_, rfl, h.1⟩
/-- A definition that came in. -/
theorem open_def {H : Type} {enc : TypeId × Value → H} {W : World} {r : Reach} {base : Nat} {v : Value} {d : DataW H} {p : List MemPlace} (hv : Value.okWide Tryz.prog W r base 50 v)
    (h : DataW.Trod enc Tryz.prog W 0 (fun _ => true) true 50 v d p) : ∃ (x : Int) (s : Str) (a : Option Addr) (len cap : Nat) (q : List ClV), v = .agg #[.int .i64 x, .string (str s), .slice a len cap] ∧ I64 x ∧ Short s ∧ SlR RCl W (· < W.heap.size) a len cap q := by
  obtain ⟨⟨cs⟩, rfl, hs⟩ := okWide_struct Tryz.underlying50 hv
  rw [show Tryz.prog.cellsOf 50 = 3 by kernel_rfl] at hs
  obtain ⟨fuel, hf⟩ := h
  match cs, hs, hf with
  | [c0, c1, c2], _, hf =>
    obtain ⟨xs, n, _, e, hl, hlen, hg⟩ := DataW.trod_struct Tryz.underlying50 hf
    match xs, hlen, hg with
    | [y0, y1, y2], _, hg =>
      have h0 : DataW.trod enc Tryz.prog W 0 (fun _ => true) true n 3 (((Value.cells (.agg ⟨[c0, c1, c2]⟩)).toList.drop 0).take (Tryz.prog.cellsOf 3)) = some y0 := hg 0 _ rfl
      have h1 : DataW.trod enc Tryz.prog W 0 (fun _ => true) true n 9 (((Value.cells (.agg ⟨[c0, c1, c2]⟩)).toList.drop 1).take (Tryz.prog.cellsOf 9)) = some y1 := hg 1 _ rfl
      have h2 : DataW.trod enc Tryz.prog W 0 (fun _ => true) true n 48 (((Value.cells (.agg ⟨[c0, c1, c2]⟩)).toList.drop 2).take (Tryz.prog.cellsOf 48)) = some y2 := hg 2 _ rfl
      rw [show Tryz.prog.cellsOf 3 = 1 by kernel_rfl] at h0
      rw [show Tryz.prog.cellsOf 9 = 1 by kernel_rfl] at h1
      rw [show Tryz.prog.cellsOf 48 = 1 by kernel_rfl] at h2
      obtain ⟨k, e0, w0⟩ := opens_int H enc W n _ _ h0
      obtain ⟨s, e1, w1⟩ := opens_txt H enc W n _ _ h1
      obtain ⟨z, n2, -, -, h3⟩ := trod_struct1 Tryz.underlying48 h2
      obtain ⟨q, A, c, ds, e2, hc, hm, hr, hk⟩ := opens_cls H enc W n2 _ _ h3
      have e0' : c0 = .int .i64 k := by simpa [Value.cells, Rep.i64, Rep.cell] using e0
      have e1' : c1 = .string (str s) := by simpa [Value.cells, Rep.str, Rep.cell, strV] using e1
      have e2' : c2 = .slice A q.length c := by
        rw [show Tryz.prog.cellsOf 46 = 1 by kernel_rfl] at e2
        simpa [Value.cells] using e2
      subst e0' e1' e2'
      exact ⟨k, s, A, q.length, c, q, rfl, w0, w1, rfl, hc, hm, ds, hr, hk⟩
end Go.Proofs.YtakebdeldndaaaaGreat
