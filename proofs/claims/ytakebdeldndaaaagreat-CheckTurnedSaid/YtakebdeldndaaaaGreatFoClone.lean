/- A state's copy. -/
import Derived.Test.YtakebdeldndaaaaGreatFoa
import Derived.Shelf.SlMaps.Clone
namespace Go.Proofs.YtakebdeldndaaaaGreat
open Go Go.RowKit
set_option linter.unusedSimpArgs false
set_option linter.unusedVariables false

set_option maxRecDepth 100000 in
set_option maxHeartbeats 2000000 in
theorem mapsClone_int (b : Nat) (es : Array MapEntry) (clock : Nat) (w : World) (hb : w.heap[b]? = some (.map es clock)) :
    Calls Tryz.prog 111 #[.map (some b)] w fun e w' => e = .returned (.map (some w.heap.size)) ∧ w' = w.alloc (.map es clock) := by
  have hq := fun w => run_eql_map_nil_sl (P := Tryz.prog) w 132 _ _ (some b) Tryz.underlying132
  have Hb := hid hb; clear hb
  go_enter Tryz.func111, Tryz.ntmps111
  go_wp2
  rw [run_callFunc_extern Tryz.func123 (by kernel_rfl) (by kernel_rfl) (by kernel_rfl) (e := Extern.MapsClone.clone) (by kernel_rfl), run_maps_clone_sl w 132 Hb.out]
  simp only [Result.andThen]
  rw [Oper.upon_value]
  go_wp2
  rw [run_typeAssert_map_sl _ 132 _ _ _ _ Tryz.underlying132]
  simp only [Result.andThen]
  rw [Oper.upon_value]
  go_wp2
  go_ret
  exact ⟨rfl, rfl⟩
theorem MapI.copy {w : World} {m : Nat} {D : Ents} (h : MapI w m D) : ∃ es clock, w.heap[m]? = some (.map es clock) ∧ MapI (w.alloc (.map es clock)) w.heap.size D := by
  obtain ⟨es, clock, h1, h2, h3, h4⟩ := h
  exact ⟨es, clock, h1, es, clock, heap_alloc_last _ _, h2, h3, h4⟩
def mapNewI (base : Nat) (D : Ents) : SPred := ⟨fun v w => ∃ m, v = .map (some m) ∧ base ≤ m ∧ MapI w m D, fun _ _ _ ⟨m, h1, h2, h3⟩ hE => ⟨m, h1, h2, h3.ext hE⟩⟩
set_option maxRecDepth 100000 in
set_option maxHeartbeats 2000000 in
theorem foldClone_at {w : World} {S : Nat → Prop} {s m : Nat} {d : DefV} {q : List ClV} {D : Ents} (h : StIs w S s m (kdVal d) q D) :
    Calls Tryz.prog 90 #[.pointer (some ⟨s, 0, none⟩)] w fun e w' => ∃ s' m', e = .returned (.pointer (some ⟨s', 0, none⟩)) ∧ w.heap.size ≤ s' ∧ w.heap.size ≤ m' ∧
      StIs w' (fun k => S k ∨ k = s' ∨ k = m') s' m' (kdVal d) q D ∧ Ext w w' := by
  obtain ⟨A, c, c0, c1, c2, hq⟩ := h.cells
  have HSt := hid h
  have HM := hid h.map
  have HC := hid (And.intro c0 (And.intro c1 c2))
  have Hq := hid hq
  clear h c0 c1 c2 hq
  obtain ⟨t, u, hk⟩ := kd_cell d
  rw [hk] at HC ⊢
  have Hqn := hid (show q.length = q.length from rfl)
  generalize hqn : q.length = nq at HC Hq
  have HN := hid hqn
  clear hqn Hqn
  go_enter Tryz.func90, Tryz.ntmps90
  go_wp2_with fail
  apply wp_drawn_last 13 [isV _, isV _, isV _, isV _, isV _, isV _, isV _, isV _, isV _, isV _, isV _, isV _, mapNewI w.heap.size D] (by decide) (by kernel_rfl)
  · kernel_rfl
  · kernel_rfl
  · refine ⟨?r1s0, ?r1s1, ?r1s2, ?r1s3, ?r1s4, ?r1s5, ?r1s6, ?r1s7, ?r1s8, ?r1s9, ?r1s10, ?r1s11, ?r1s12, trivial⟩
    case r1s0 =>
      intro v W hE hd; simp only [Region.wanted, ↓reduceIte]; (try simp [deps, waitsOn, Region.binds, knowing, isV, ownsV, anyV] at hd); simp only [putAll, List.take_succ_cons, List.take_zero, List.drop_succ_cons, List.drop_zero, Act.put, List.setIfInBounds_toArray, List.set_cons_zero, List.set_cons_succ, Nat.zero_add, Nat.reduceAdd]; go_simp; exact ⟨Below.refl _ _, rfl⟩
    case r1s1 =>
      intro v W hE hd; simp only [Region.wanted, ↓reduceIte]; (try simp [deps, waitsOn, Region.binds, knowing, isV, ownsV, anyV] at hd); simp only [putAll, List.take_succ_cons, List.take_zero, List.drop_succ_cons, List.drop_zero, Act.put, List.setIfInBounds_toArray, List.set_cons_zero, List.set_cons_succ, Nat.zero_add, Nat.reduceAdd]; go_simp; exact ⟨Below.refl _ _, rfl⟩
    case r1s2 =>
      intro v W hE hd; simp only [Region.wanted, ↓reduceIte]; (try simp [deps, waitsOn, Region.binds, knowing, isV, ownsV, anyV] at hd); simp only [putAll, List.take_succ_cons, List.take_zero, List.drop_succ_cons, List.drop_zero, Act.put, List.setIfInBounds_toArray, List.set_cons_zero, List.set_cons_succ, Nat.zero_add, Nat.reduceAdd]; go_simp; exact ⟨Below.refl _ _, rfl⟩
    case r1s3 =>
      intro v W hE hd; simp only [Region.wanted, ↓reduceIte]; (try simp [deps, waitsOn, Region.binds, knowing, isV, ownsV, anyV] at hd); simp only [putAll, List.take_succ_cons, List.take_zero, List.drop_succ_cons, List.drop_zero, Act.put, List.setIfInBounds_toArray, List.set_cons_zero, List.set_cons_succ, Nat.zero_add, Nat.reduceAdd]
      have e1 := cell_below hE HC.out.1
      go_simp
      exact ⟨Below.refl _ _, rfl⟩
    case r1s4 =>
      intro v W hE hd; simp only [Region.wanted, ↓reduceIte]; (try simp [deps, waitsOn, Region.binds, knowing, isV, ownsV, anyV] at hd); simp only [putAll, List.take_succ_cons, List.take_zero, List.drop_succ_cons, List.drop_zero, Act.put, List.setIfInBounds_toArray, List.set_cons_zero, List.set_cons_succ, Nat.zero_add, Nat.reduceAdd]; go_simp; exact ⟨Below.refl _ _, rfl⟩
    case r1s5 =>
      intro v W hE hd; simp only [Region.wanted, ↓reduceIte]; (try simp [deps, waitsOn, Region.binds, knowing, isV, ownsV, anyV] at hd); simp only [putAll, List.take_succ_cons, List.take_zero, List.drop_succ_cons, List.drop_zero, Act.put, List.setIfInBounds_toArray, List.set_cons_zero, List.set_cons_succ, Nat.zero_add, Nat.reduceAdd]; go_simp; exact ⟨Below.refl _ _, rfl⟩
    case r1s6 =>
      intro v W hE hd; simp only [Region.wanted, ↓reduceIte]; (try simp [deps, waitsOn, Region.binds, knowing, isV, ownsV, anyV] at hd); simp only [putAll, List.take_succ_cons, List.take_zero, List.drop_succ_cons, List.drop_zero, Act.put, List.setIfInBounds_toArray, List.set_cons_zero, List.set_cons_succ, Nat.zero_add, Nat.reduceAdd]; go_simp; exact ⟨Below.refl _ _, rfl⟩
    case r1s7 =>
      intro v W hE hd; simp only [Region.wanted, ↓reduceIte]; (try simp [deps, waitsOn, Region.binds, knowing, isV, ownsV, anyV] at hd); simp only [putAll, List.take_succ_cons, List.take_zero, List.drop_succ_cons, List.drop_zero, Act.put, List.setIfInBounds_toArray, List.set_cons_zero, List.set_cons_succ, Nat.zero_add, Nat.reduceAdd]
      have e1 := cell_below hE HC.out.2.1
      go_simp
      exact ⟨Below.refl _ _, rfl⟩
    case r1s8 =>
      intro v W hE hd; simp only [Region.wanted, ↓reduceIte]; (try simp [deps, waitsOn, Region.binds, knowing, isV, ownsV, anyV] at hd); simp only [putAll, List.take_succ_cons, List.take_zero, List.drop_succ_cons, List.drop_zero, Act.put, List.setIfInBounds_toArray, List.set_cons_zero, List.set_cons_succ, Nat.zero_add, Nat.reduceAdd]; go_simp; exact ⟨Below.refl _ _, rfl⟩
    case r1s9 =>
      intro v W hE hd; simp only [Region.wanted, ↓reduceIte]; (try simp [deps, waitsOn, Region.binds, knowing, isV, ownsV, anyV] at hd); simp only [putAll, List.take_succ_cons, List.take_zero, List.drop_succ_cons, List.drop_zero, Act.put, List.setIfInBounds_toArray, List.set_cons_zero, List.set_cons_succ, Nat.zero_add, Nat.reduceAdd]; go_simp; exact ⟨Below.refl _ _, rfl⟩
    case r1s10 =>
      intro v W hE hd; simp only [Region.wanted, ↓reduceIte]; (try simp [deps, waitsOn, Region.binds, knowing, isV, ownsV, anyV] at hd); simp only [putAll, List.take_succ_cons, List.take_zero, List.drop_succ_cons, List.drop_zero, Act.put, List.setIfInBounds_toArray, List.set_cons_zero, List.set_cons_succ, Nat.zero_add, Nat.reduceAdd]; go_simp; exact ⟨Below.refl _ _, rfl⟩
    case r1s11 =>
      intro v W hE hd; simp only [Region.wanted, ↓reduceIte]; (try simp [deps, waitsOn, Region.binds, knowing, isV, ownsV, anyV] at hd); simp only [putAll, List.take_succ_cons, List.take_zero, List.drop_succ_cons, List.drop_zero, Act.put, List.setIfInBounds_toArray, List.set_cons_zero, List.set_cons_succ, Nat.zero_add, Nat.reduceAdd]
      have e1 := cell_below hE HC.out.2.2
      go_simp
      exact ⟨Below.refl _ _, rfl⟩
    case r1s12 =>
      intro v W hE hd; simp only [Region.wanted, ↓reduceIte]; (try simp [deps, waitsOn, Region.binds, knowing, isV, ownsV, anyV] at hd); simp only [putAll, List.take_succ_cons, List.take_zero, List.drop_succ_cons, List.drop_zero, Act.put, List.setIfInBounds_toArray, List.set_cons_zero, List.set_cons_succ, Nat.zero_add, Nat.reduceAdd]
      go_simp
      obtain ⟨es, clock, hb, hM⟩ := (HM.out.ext hE).copy
      have HM2 := hid hM; clear hM
      refine (mapsClone_int m es clock W hb).mono ?_
      rintro e w5 ⟨rfl, rfl⟩
      clear hb
      go_simp
      exact ⟨(Below.refl _ _).alloc (Nat.le_refl _) _, _, rfl, hE.size, HM2.out⟩
  · rintro v W hE ⟨-, -, -, e3, -, -, -, e7, -, -, -, -, e12, -⟩
    have e3 := (show v 3 = _ from e3)
    have e7 := (show v 7 = _ from e7)
    have e12 := (show _ from e12)
    simp only [putAll, List.take_succ_cons, List.take_zero, List.drop_succ_cons, List.drop_zero, Act.put, List.setIfInBounds_toArray, List.set_cons_zero, List.set_cons_succ, Nat.zero_add, Nat.reduceAdd]
    obtain ⟨m', e12, hm', hM'⟩ := e12
    rw [e3, e7, e12]
    have HM' := hid hM'
    have HE := hid hE
    have hmlt := hM'.lt
    clear hE e3 e7 e12 hM'
    go_wp2
    go_ret
    have hA : Ext W (W.alloc (.cells #[.iface t u, .slice A nq c, .map (some m')] 134)) := ext_alloc _ _
    have hE2 := Ext.trans' HE.out hA
    have hsz := HE.out.size
    have hls := HSt.out.lt
    refine ⟨W.heap.size, m', rfl, HE.out.size, hm', ⟨⟨A, c, ?_, ?_⟩, HM'.out.ext hA, .inr (.inl rfl), .inr (.inr rfl), by omega⟩, hE2⟩
    · rw [HN.out]; exact heap_alloc_last _ _
    · rw [HN.out]; exact slR_more Hq.out hE2 fun k hk => by
        rcases hk with h | h | h
        · exact .inl h
        · right; omega
        · right; omega
end Go.Proofs.YtakebdeldndaaaaGreat
