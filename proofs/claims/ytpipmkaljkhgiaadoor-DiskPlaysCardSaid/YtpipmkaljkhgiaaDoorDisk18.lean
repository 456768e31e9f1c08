/- The walk of disk.Clone. -/
import Derived.Test.YtpipmkaljkhgiaaDoorDisk17
import Derived.Shelf.SlMaps.Clone
namespace Go.Proofs.YtpipmkaljkhgiaaDoor
open Go Go.RowKit
set_option linter.unusedSimpArgs false
set_option linter.unusedVariables false

set_option maxRecDepth 100000 in
set_option maxHeartbeats 2000000 in
theorem mapsClone_file (b : Nat) (es : Array MapEntry) (clock : Nat) (w : World) (hb : w.heap[b]? = some (.map es clock)) :
    Calls Tryd.prog 37 #[.map (some b)] w fun e w' => e = .returned (.map (some w.heap.size)) ∧ w' = w.alloc (.map es clock) := by
  have hq := fun w => run_eql_map_nil_sl (P := Tryd.prog) w 56 _ _ (some b) Tryd.underlying56
  have Hb := hid hb; clear hb
  go_enter Tryd.func37, Tryd.ntmps37
  go_wp2
  rw [run_callFunc_extern Tryd.func51 (by kernel_rfl) (by kernel_rfl) (by kernel_rfl) (e := Extern.MapsClone.clone) (by kernel_rfl), run_maps_clone_sl w 56 Hb.out]
  simp only [Result.andThen]
  rw [Oper.upon_value]
  go_wp2
  rw [run_typeAssert_map_sl _ 56 _ _ _ _ Tryd.underlying56]
  simp only [Result.andThen]
  rw [Oper.upon_value]
  go_wp2
  go_ret
  exact ⟨rfl, rfl⟩
def mapNew (base : Nat) (G : Raw) : SPred := ⟨fun v w => ∃ m, v = .map (some m) ∧ base ≤ m ∧ MapAt w m G, fun _ _ _ ⟨m, h1, h2, h3⟩ hE => ⟨m, h1, h2, h3.ext hE⟩⟩
theorem MapAt.copy {w : World} {m : Nat} {G : Raw} (h : MapAt w m G) : ∃ es clock, w.heap[m]? = some (.map es clock) ∧ MapAt (w.alloc (.map es clock)) w.heap.size G := by
  obtain ⟨es, clock, hb, F, hs, hD⟩ := h
  exact ⟨es, clock, hb, es, clock, (MapKept.heap_alloc w _).1, F, hs, hD⟩
set_option maxRecDepth 100000 in
set_option maxHeartbeats 2000000 in
theorem clone_at {w : World} {S : Nat → Prop} {d m : Nat} {q l : Int} {F : Files} (h : DiskIs w S d m q l F) :
    Calls Tryd.prog 20 #[.pointer (some ⟨d, 0, none⟩)] w fun e w' => ∃ d' m', e = .returned (.pointer (some ⟨d', 0, none⟩)) ∧ w.heap.size ≤ d' ∧ w.heap.size ≤ m' ∧
      DiskIs w' (fun k => S k ∨ k = d' ∨ k = m') d' m' q l F ∧ DiskIs w' (fun k => S k ∨ k = d' ∨ k = m') d m q l F ∧ Ext w w' := by
  have H := hid h
  obtain ⟨G, hG, hH⟩ := h.map
  have HG := hid hG; have HH := hid hH
  clear h hG hH
  go_enter Tryd.func20, Tryd.ntmps20
  go_wp2_with fail
  apply wp_drawn_last 13 [isV _, isV _, isV _, isV _, isV _, isV _, isV _, isV _, isV _, isV _, isV _, isV _, mapNew w.heap.size G] (by decide) (by kernel_rfl)
  · kernel_rfl
  · kernel_rfl
  · refine ⟨?r1s0, ?r1s1, ?r1s2, ?r1s3, ?r1s4, ?r1s5, ?r1s6, ?r1s7, ?r1s8, ?r1s9, ?r1s10, ?r1s11, ?r1s12, trivial⟩
    case r1s0 =>
      intro v W hE hd; simp only [Region.wanted, ↓reduceIte]; (try simp [deps, waitsOn, Region.binds, knowing, isV, ownsV, anyV] at hd); simp only [putAll, List.take_succ_cons, List.take_zero, List.drop_succ_cons, List.drop_zero, Act.put, List.setIfInBounds_toArray, List.set_cons_zero, List.set_cons_succ, Nat.zero_add, Nat.reduceAdd]; go_simp; exact ⟨Below.refl _ _, rfl⟩
    case r1s1 =>
      intro v W hE hd; simp only [Region.wanted, ↓reduceIte]; (try simp [deps, waitsOn, Region.binds, knowing, isV, ownsV, anyV] at hd); simp only [putAll, List.take_succ_cons, List.take_zero, List.drop_succ_cons, List.drop_zero, Act.put, List.setIfInBounds_toArray, List.set_cons_zero, List.set_cons_succ, Nat.zero_add, Nat.reduceAdd]; go_simp; exact ⟨Below.refl _ _, rfl⟩
    case r1s2 =>
      intro v W hE hd; simp only [Region.wanted, ↓reduceIte]; (try simp [deps, waitsOn, Region.binds, knowing, isV, ownsV, anyV] at hd); simp only [putAll, List.take_succ_cons, List.take_zero, List.drop_succ_cons, List.drop_zero, Act.put, List.setIfInBounds_toArray, List.set_cons_zero, List.set_cons_succ, Nat.zero_add, Nat.reduceAdd]; go_simp; exact ⟨Below.refl _ _, rfl⟩
    case r1s3 =>
      intro v W hE hd; simp only [Region.wanted, ↓reduceIte]; (try simp [deps, waitsOn, Region.binds, knowing, isV, ownsV, anyV] at hd); simp only [putAll, List.take_succ_cons, List.take_zero, List.drop_succ_cons, List.drop_zero, Act.put, List.setIfInBounds_toArray, List.set_cons_zero, List.set_cons_succ, Nat.zero_add, Nat.reduceAdd]
      have e1 := cell_below hE H.out.str.quota
      go_simp
      exact ⟨Below.refl _ _, rfl⟩
    case r1s4 =>
      intro v W hE hd; simp only [Region.wanted, ↓reduceIte]; (try simp [deps, waitsOn, Region.binds, knowing, isV, ownsV, anyV] at hd); simp only [putAll, List.take_succ_cons, List.take_zero, List.drop_succ_cons, List.drop_zero, Act.put, List.setIfInBounds_toArray, List.set_cons_zero, List.set_cons_succ, Nat.zero_add, Nat.reduceAdd]; go_simp; exact ⟨Below.refl _ _, rfl⟩
    case r1s5 =>
      intro v W hE hd; simp only [Region.wanted, ↓reduceIte]; (try simp [deps, waitsOn, Region.binds, knowing, isV, ownsV, anyV] at hd); simp only [putAll, List.take_succ_cons, List.take_zero, List.drop_succ_cons, List.drop_zero, Act.put, List.setIfInBounds_toArray, List.set_cons_zero, List.set_cons_succ, Nat.zero_add, Nat.reduceAdd]; go_simp; exact ⟨Below.refl _ _, rfl⟩
    case r1s6 =>
      intro v W hE hd; simp only [Region.wanted, ↓reduceIte]; (try simp [deps, waitsOn, Region.binds, knowing, isV, ownsV, anyV] at hd); simp only [putAll, List.take_succ_cons, List.take_zero, List.drop_succ_cons, List.drop_zero, Act.put, List.setIfInBounds_toArray, List.set_cons_zero, List.set_cons_succ, Nat.zero_add, Nat.reduceAdd]; go_simp; exact ⟨Below.refl _ _, rfl⟩
    case r1s7 =>
      intro v W hE hd; simp only [Region.wanted, ↓reduceIte]; (try simp [deps, waitsOn, Region.binds, knowing, isV, ownsV, anyV] at hd); simp only [putAll, List.take_succ_cons, List.take_zero, List.drop_succ_cons, List.drop_zero, Act.put, List.setIfInBounds_toArray, List.set_cons_zero, List.set_cons_succ, Nat.zero_add, Nat.reduceAdd]
      have e1 := cell_below hE H.out.str.left
      go_simp
      exact ⟨Below.refl _ _, rfl⟩
    case r1s8 =>
      intro v W hE hd; simp only [Region.wanted, ↓reduceIte]; (try simp [deps, waitsOn, Region.binds, knowing, isV, ownsV, anyV] at hd); simp only [putAll, List.take_succ_cons, List.take_zero, List.drop_succ_cons, List.drop_zero, Act.put, List.setIfInBounds_toArray, List.set_cons_zero, List.set_cons_succ, Nat.zero_add, Nat.reduceAdd]; go_simp; exact ⟨Below.refl _ _, rfl⟩
    case r1s9 =>
      intro v W hE hd; simp only [Region.wanted, ↓reduceIte]; (try simp [deps, waitsOn, Region.binds, knowing, isV, ownsV, anyV] at hd); simp only [putAll, List.take_succ_cons, List.take_zero, List.drop_succ_cons, List.drop_zero, Act.put, List.setIfInBounds_toArray, List.set_cons_zero, List.set_cons_succ, Nat.zero_add, Nat.reduceAdd]; go_simp; exact ⟨Below.refl _ _, rfl⟩
    case r1s10 =>
      intro v W hE hd; simp only [Region.wanted, ↓reduceIte]; (try simp [deps, waitsOn, Region.binds, knowing, isV, ownsV, anyV] at hd); simp only [putAll, List.take_succ_cons, List.take_zero, List.drop_succ_cons, List.drop_zero, Act.put, List.setIfInBounds_toArray, List.set_cons_zero, List.set_cons_succ, Nat.zero_add, Nat.reduceAdd]; go_simp; exact ⟨Below.refl _ _, rfl⟩
    case r1s11 =>
      intro v W hE hd; simp only [Region.wanted, ↓reduceIte]; (try simp [deps, waitsOn, Region.binds, knowing, isV, ownsV, anyV] at hd); simp only [putAll, List.take_succ_cons, List.take_zero, List.drop_succ_cons, List.drop_zero, Act.put, List.setIfInBounds_toArray, List.set_cons_zero, List.set_cons_succ, Nat.zero_add, Nat.reduceAdd]
      have e1 := cell_below hE H.out.str.files
      go_simp
      exact ⟨Below.refl _ _, rfl⟩
    case r1s12 =>
      intro v W hE hd; simp only [Region.wanted, ↓reduceIte]; (try simp [deps, waitsOn, Region.binds, knowing, isV, ownsV, anyV] at hd); simp only [putAll, List.take_succ_cons, List.take_zero, List.drop_succ_cons, List.drop_zero, Act.put, List.setIfInBounds_toArray, List.set_cons_zero, List.set_cons_succ, Nat.zero_add, Nat.reduceAdd]
      go_simp
      obtain ⟨es, clock, hb, hM⟩ := (HG.out.ext hE).copy
      have HM := hid hM; clear hM
      refine (mapsClone_file m es clock W hb).mono ?_
      rintro e w5 ⟨rfl, rfl⟩
      clear hb
      go_simp
      exact ⟨(Below.refl _ _).alloc (Nat.le_refl _) _, _, rfl, hE.size, HM.out⟩
  · rintro v W hE ⟨-, -, -, e3, -, -, -, e7, -, -, -, -, e12, -⟩
    have e3 := (show v 3 = _ from e3)
    have e7 := (show v 7 = _ from e7)
    have e12 := (show _ from e12)
    simp only [putAll, List.take_succ_cons, List.take_zero, List.drop_succ_cons, List.drop_zero, Act.put, List.setIfInBounds_toArray, List.set_cons_zero, List.set_cons_succ, Nat.zero_add, Nat.reduceAdd]
    obtain ⟨m', e12, hm', hM'⟩ := e12
    rw [e3, e7, e12]
    have HM' := hid hM'
    have HE := hid hE
    have hmlt := hM'.lt
    clear hE e3 e7 e12 hM'
    go_wp2
    go_ret
    have hA : Ext W (W.alloc (.cells #[.int .i64 q, .int .i64 l, .map (some m')] 58)) := (Below.refl _ _).alloc (Nat.le_refl _) _
    have hE2 := Ext.trans' HE.out hA
    have hsz := HE.out.size
    have hb := heap_alloc_last W (.cells #[.int .i64 q, .int .i64 l, .map (some m')] 58)
    have hS2 : ∀ k, k < w.heap.size → ((S k ∨ k = W.heap.size ∨ k = m') ↔ S k) := fun k hk => ⟨fun h => by rcases h with h | h | h; exact h; omega; omega, .inl⟩
    have hfr : ∀ k, (W.alloc (.cells #[.int .i64 q, .int .i64 l, .map (some m')] 58)).heap.size ≤ k → ¬ (S k ∨ k = W.heap.size ∨ k = m') := fun k hk => by
      simp at hk
      rintro (h | h | h)
      · exact H.out.fresh k (by omega) h
      · omega
      · omega
    have hHH : Held (W.alloc (.cells #[.int .i64 q, .int .i64 l, .map (some m')] 58)) (fun k => S k ∨ k = W.heap.size ∨ k = m') G F :=
      (HH.out.more hS2).kept (Kept2.of_ext (d := d) (m := m) hE2) (.inl H.out.own) (.inl H.out.ownM)
    refine ⟨_, m', rfl, HE.out.size, hm', ⟨⟨?_, ?_, ?_, ?_⟩, ⟨G, HM'.out.ext hA, hHH⟩, by omega, .inr (.inl rfl), .inr (.inr rfl), hfr, H.out.few, H.out.lr⟩, ⟨H.out.str.ext hE2, ⟨G, HG.out.ext hE2, hHH⟩, H.out.ne, .inl H.out.own, .inl H.out.ownM, hfr, H.out.few, H.out.lr⟩, hE2⟩
    · rw [cell_of_row _ _ _ _ _ _ hb]; rfl
    · rw [cell_of_row _ _ _ _ _ _ hb]; rfl
    · rw [cell_of_row _ _ _ _ _ _ hb]; rfl
    · unfold World.frozen?; dsimp only; rw [hb]; rfl
end Go.Proofs.YtpipmkaljkhgiaaDoor
