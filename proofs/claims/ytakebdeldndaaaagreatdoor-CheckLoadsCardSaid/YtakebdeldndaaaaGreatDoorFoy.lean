/- Several texts of this claim's, one behind the other. -/
import Derived.Test.YtakebdeldndaaaaGreatDoorFoz
import Derived.Test.YtakebdeldndaaaaGreatDoorEvx
import Derived.Deep.DeepCutAuto
import Derived.Test.YtakebdeldndaaaaGreatDoorFoa
import Derived.Shelf.SlMaps.Clone
/- What folding comes to. Plain. -/
namespace Go.Proofs.YtakebdeldndaaaaGreatDoor
open Go
set_option linter.unusedVariables false
theorem fitsN_iff (n : Int) : fitsN n = true ↔ -1125899906842624 ≤ n ∧ n ≤ 1125899906842624 := by unfold fitsN; exact decide_eq_true_iff
end Go.Proofs.YtakebdeldndaaaaGreatDoor
/- A definition that is handed over, cut to eight clauses; rows that are loaded stay. -/
namespace Go.Proofs.YtakebdeldndaaaaGreatDoor
open Go Go.RowKit
set_option linter.unusedSimpArgs false
set_option linter.unusedVariables false
/-! ### Rows that may be loaded -/
theorem ins_last (x : List UInt8 × Int) : ∀ D : Ents, (∀ y ∈ D, bytesBefore y.1 x.1 = true) → insI x D = D ++ [x]
 | [], _ => rfl
 | y :: r, h => by
  unfold insI
  rw [if_neg (by rw [tb_asymm (h y (by simp))]; decide), ins_last x r fun z hz => h z (by simp [hz])]
  rfl
theorem put_last (k : Str) (v : Int) (D : Ents) (h : ∀ y ∈ D, bytesBefore y.1 k = true) : putI k v D = D ++ [(k, v)] := by
 unfold putI
 have e : delI k D = D := by
  unfold delI
  rw [List.filter_eq_self]
  intro p hp
  have := tb_ne (h p hp)
  simpa using this
 rw [e]
 exact ins_last (k, v) D h
theorem puts_take {l : Ents} (h : UpI l) : ∀ k, k ≤ l.length → putsI (l.take k) = l.take k
 | 0, _ => rfl
 | k + 1, hk => by
  have hkx : k < l.length := by omega
  rw [List.take_succ_eq_append_getElem hkx, putsI_snoc, puts_take h k (by omega)]
  refine put_last _ _ _ fun y hy => ?_
  obtain ⟨j, hj, rfl⟩ := List.getElem_of_mem hy
  rw [List.length_take] at hj
  rw [List.getElem_take]
  exact (List.pairwise_iff_getElem.1 h) j k (by omega) hkx (by omega)
theorem puts_up {l : Ents} (h : UpI l) : putsI l = l := by
 have := puts_take h l.length (Nat.le_refl _)
 rwa [List.take_length] at this
theorem okE_bad {d : DefV} {l : Ents} (h : okE d l = true) {j : Nat} (hj : j < l.length) : badE d l j = false := by
 rw [okE, List.all_eq_true] at h
 have := h j (List.mem_range.2 hj)
 simpa using this
theorem up_of_adj : ∀ {l : Ents}, (∀ j (h : j + 1 < l.length), bytesBefore (l[j]'(by omega)).1 (l[j + 1]'h).1 = true) → UpI l
 | [], _ => .nil
 | [a], _ => List.pairwise_singleton _ _
 | a :: b :: r, h => by
  have ih : UpI (b :: r) := up_of_adj fun j hj => h (j + 1) (by simpa using hj)
  have h0 : bytesBefore a.1 b.1 = true := h 0 (by simp)
  refine List.pairwise_cons.2 ⟨fun x hx => ?_, ih⟩
  rcases List.mem_cons.1 hx with rfl | hx
  ·exact h0
  ·exact tb_trans h0 ((List.pairwise_cons.1 ih).1 x hx)
theorem okE_up {d : DefV} {l : Ents} (h : okE d l = true) : UpI l := by
 refine up_of_adj fun j hj => ?_
 have hb := okE_bad h hj
 unfold badE at hb
 simp only [Bool.or_eq_false_iff, Bool.and_eq_false_iff] at hb
 rcases hb.1.1 with h1 | h1
 ·simp at h1
 ·rw [show j + 1 - 1 = j from rfl, gE_at (show j < l.length by omega), gE_at hj] at h1
  simpa using h1
theorem okE_fit {d : DefV} {l : Ents} (h : okE d l = true) : FitB 1125899906842624 l := by
 intro p hp
 obtain ⟨j, hj, rfl⟩ := List.getElem_of_mem hp
 have hb := okE_bad h hj
 unfold badE at hb
 simp only [Bool.or_eq_false_iff] at hb
 have h1 := hb.1.2
 rw [gE_at hj] at h1
 have := (fitsN_iff l[j].2).1 (by simpa using h1)
 exact this
theorem loadF_ok {d : DefV} {l D : Ents} (h : okE d l = true) : loadF d l D = l := by unfold loadF; rw [if_pos h, puts_up (okE_up h)]
theorem loadF_no {d : DefV} {l D : Ents} (h : okE d l = false) : loadF d l D = D := by unfold loadF; rw [h]; rfl
theorem loadE_ok {d : DefV} {l : Ents} (h : okE d l = true) : loadE d l = 0 := by unfold loadE; rw [if_pos h]
theorem loadE_no {d : DefV} {l : Ents} (h : okE d l = false) : loadE d l = 1 := by unfold loadE; rw [h]; rfl
end Go.Proofs.YtakebdeldndaaaaGreatDoor
/- Rows of events folded. -/
namespace Go.Proofs.YtakebdeldndaaaaGreatDoor
open Go Go.RowKit
set_option linter.unusedSimpArgs false
set_option linter.unusedVariables false
theorem mayN_len {s : Str} (h : mayN s = true) : s.length ≤ 24 := by
 unfold mayN at h
 simp only [Bool.and_eq_true, decide_eq_true_eq] at h
 exact h.1.1.2
theorem tagN_len {s : Str} (h : tagN s = true) : s.length ≤ 1000 := by
 unfold tagN partsT at h
 split at h
 ·cases h
 ·rename_i i hi
  split at h
  ·rename_i hb
   rw [Bool.and_eq_true] at hb
   have h1 := mayN_len hb.1
   have h2 := mayN_len hb.2
   rw [List.length_take] at h1
   rw [List.length_drop] at h2
   omega
  ·cases h
theorem ownK_out {α : Type} {R : Rep α} {e : TypeId} {K S : Nat → Prop} {w : World} {base : Nat} {v : Value} {xs : List α} (h : OwnK R e K w base v xs) (hK : ∀ k, K k → k < w.heap.size ∧ ¬ S k) (hS : ∀ k, S k → k < base) :
  ∃ A c, v = .slice A xs.length c ∧ SlR R w (Out S w) A xs.length c xs := by
 obtain ⟨A, c, cs, e1, h1, h2, h3, h4⟩ := h.read
 refine ⟨A, c, e1, rfl, h1, h2, cs, h3.mono fun k hk => hK k hk, ?_⟩
 rcases h4 with h4 | ⟨b, o, e2, h4⟩
 ·exact .inl h4
 ·by_cases h0 : 0 < xs.length
  ·obtain ⟨g, c', e3, -, hg1, hg2, -⟩ := h.at_ h0
   rw [e1] at e3
   simp only [Value.slice.injEq] at e3
   rw [e2] at e3
   simp only [Option.some.injEq, Addr.mk.injEq] at e3
   obtain ⟨⟨rfl, -, -⟩, -⟩ := e3
   exact .inr ⟨b, o, e2, ⟨hg2, fun h => by have := hS b h; omega⟩, h4⟩
  ·have : xs = [] := List.length_eq_zero_iff.1 (by omega)
   subst this
   exact .inl h3
end Go.Proofs.YtakebdeldndaaaaGreatDoor
/- Three states side by side, and a row of events. -/
namespace Go.Proofs.YtakebdeldndaaaaGreatDoor
open Go Go.RowKit
set_option linter.unusedSimpArgs false
set_option linter.unusedVariables false
def Apart (a ma b mb : Nat) : Prop := a ≠ b ∧ a ≠ mb ∧ ma ≠ b ∧ ma ≠ mb
theorem Apart.symm {a ma b mb : Nat} (h : Apart a ma b mb) : Apart b mb a ma := ⟨fun e => h.1 e.symm, fun e => h.2.2.1 e.symm, fun e => h.2.1 e.symm, fun e => h.2.2.2 e.symm⟩
section
variable {n0 : Nat} {S : Nat → Prop} {a ma b mb c mc : Nat} {da db dc : DefV} {w w' : World} {Da Db Dc D' : Ents}
end
def S6 (a ma b mb c mc : Nat) (k : Nat) : Prop := k = a ∨ k = ma ∨ k = b ∨ k = mb ∨ k = c ∨ k = mc
end Go.Proofs.YtakebdeldndaaaaGreatDoor
/- What folding hangs on: sums. Plain. -/
namespace Go.Proofs.YtakebdeldndaaaaGreatDoor
open Go
set_option linter.unusedVariables false
end Go.Proofs.YtakebdeldndaaaaGreatDoor
/- A state's copy. -/
namespace Go.Proofs.YtakebdeldndaaaaGreatDoor
open Go Go.RowKit
set_option linter.unusedSimpArgs false
set_option linter.unusedVariables false
set_option maxRecDepth 100000 in
set_option maxHeartbeats 2000000 in
theorem mapsClone_int (b : Nat) (es : Array MapEntry) (clock : Nat) (w : World) (hb : w.heap[b]? = some (.map es clock)) :
  Calls Tryz.prog 205 #[.map (some b)] w fun e w' => e = .returned (.map (some w.heap.size)) ∧ w' = w.alloc (.map es clock) := by
 have hq := fun w => run_eql_map_nil_sl (P := Tryz.prog) w 186 _ _ (some b) Tryz.underlying186
 have Hb := hid hb; clear hb
 go_enter Tryz.func205, Tryz.ntmps205
 go_wp2
 rw [run_callFunc_extern Tryz.func216 (by kernel_rfl) (by kernel_rfl) (by kernel_rfl) (e := Extern.MapsClone.clone) (by kernel_rfl), run_maps_clone_sl w 186 Hb.out]
 simp only [Result.andThen]
 rw [Oper.upon_value]
 go_wp2
 rw [run_typeAssert_map_sl _ 186 _ _ _ _ Tryz.underlying186]
 simp only [Result.andThen]
 rw [Oper.upon_value]
 go_wp2
 go_ret
 exact ⟨rfl, rfl⟩
theorem MapI.copy {w : World} {m : Nat} {D : Ents} (h : MapI w m D) : ∃ es clock, w.heap[m]? = some (.map es clock) ∧ MapI (w.alloc (.map es clock)) w.heap.size D := by
 obtain ⟨es, clock, h1, h2, h3, h4⟩ := h
 exact ⟨es, clock, h1, es, clock, heap_alloc_last _ _, h2, h3, h4⟩
def mapNewI (base : Nat) (D : Ents) : SPred := ⟨fun v w => ∃ m, v = .map (some m) ∧ base ≤ m ∧ MapI w m D, fun _ _ _ ⟨m, h1, h2, h3⟩ hE => ⟨m, h1, h2, h3.ext hE⟩⟩
set_option maxRecDepth 100000 in
set_option maxHeartbeats 2000000 in
theorem foldClone_at {w : World} {S : Nat → Prop} {s m : Nat} {d : DefV} {q : List ClV} {D : Ents} (h : StIs w S s m (kdVal d) q D) :
  Calls Tryz.prog 182 #[.pointer (some ⟨s, 0, none⟩)] w fun e w' => ∃ s' m', e = .returned (.pointer (some ⟨s', 0, none⟩)) ∧ w.heap.size ≤ s' ∧ w.heap.size ≤ m' ∧
   StIs w' (fun k => S k ∨ k = s' ∨ k = m') s' m' (kdVal d) q D ∧ Ext w w' := by
 obtain ⟨A, c, c0, c1, c2, hq⟩ := h.cells
 have HSt := hid h
 have HM := hid h.map
 have HC := hid (And.intro c0 (And.intro c1 c2))
 have Hq := hid hq
 clear h c0 c1 c2 hq
 obtain ⟨t, u, hk⟩ := kd_cell d
 rw [hk] at HC ⊢
 have Hqn := hid (show q.length = q.length from rfl)
 generalize hqn : q.length = nq at HC Hq
 have HN := hid hqn
 clear hqn Hqn
 go_enter Tryz.func182, Tryz.ntmps182
 go_wp2_with fail
 apply wp_drawn_last 13 [isV _, isV _, isV _, isV _, isV _, isV _, isV _, isV _, isV _, isV _, isV _, isV _, mapNewI w.heap.size D] (by decide) (by kernel_rfl)
 ·kernel_rfl
 ·kernel_rfl
 ·refine ⟨?r1s0, ?r1s1, ?r1s2, ?r1s3, ?r1s4, ?r1s5, ?r1s6, ?r1s7, ?r1s8, ?r1s9, ?r1s10, ?r1s11, ?r1s12, trivial⟩
  case r1s0 | r1s1 | r1s2 =>
   intro v W hE hd; simp only [Region.wanted, ↓reduceIte]; (try simp [deps, waitsOn, Region.binds, knowing, isV, ownsV, anyV] at hd); simp only [putAll, List.take_succ_cons, List.take_zero, List.drop_succ_cons, List.drop_zero, Act.put, List.setIfInBounds_toArray, List.set_cons_zero, List.set_cons_succ, Nat.zero_add, Nat.reduceAdd]; go_simp; exact ⟨Below.refl _ _, rfl⟩
  case r1s3 =>
   intro v W hE hd; simp only [Region.wanted, ↓reduceIte]; (try simp [deps, waitsOn, Region.binds, knowing, isV, ownsV, anyV] at hd); simp only [putAll, List.take_succ_cons, List.take_zero, List.drop_succ_cons, List.drop_zero, Act.put, List.setIfInBounds_toArray, List.set_cons_zero, List.set_cons_succ, Nat.zero_add, Nat.reduceAdd]
   have e1 := cell_below hE HC.out.1
   go_simp
   exact ⟨Below.refl _ _, rfl⟩
  case r1s4 | r1s5 | r1s6 =>
   intro v W hE hd; simp only [Region.wanted, ↓reduceIte]; (try simp [deps, waitsOn, Region.binds, knowing, isV, ownsV, anyV] at hd); simp only [putAll, List.take_succ_cons, List.take_zero, List.drop_succ_cons, List.drop_zero, Act.put, List.setIfInBounds_toArray, List.set_cons_zero, List.set_cons_succ, Nat.zero_add, Nat.reduceAdd]; go_simp; exact ⟨Below.refl _ _, rfl⟩
  case r1s7 =>
   intro v W hE hd; simp only [Region.wanted, ↓reduceIte]; (try simp [deps, waitsOn, Region.binds, knowing, isV, ownsV, anyV] at hd); simp only [putAll, List.take_succ_cons, List.take_zero, List.drop_succ_cons, List.drop_zero, Act.put, List.setIfInBounds_toArray, List.set_cons_zero, List.set_cons_succ, Nat.zero_add, Nat.reduceAdd]
   have e1 := cell_below hE HC.out.2.1
   go_simp
   exact ⟨Below.refl _ _, rfl⟩
  case r1s8 | r1s9 | r1s10 =>
   intro v W hE hd; simp only [Region.wanted, ↓reduceIte]; (try simp [deps, waitsOn, Region.binds, knowing, isV, ownsV, anyV] at hd); simp only [putAll, List.take_succ_cons, List.take_zero, List.drop_succ_cons, List.drop_zero, Act.put, List.setIfInBounds_toArray, List.set_cons_zero, List.set_cons_succ, Nat.zero_add, Nat.reduceAdd]; go_simp; exact ⟨Below.refl _ _, rfl⟩
  case r1s11 =>
   intro v W hE hd; simp only [Region.wanted, ↓reduceIte]; (try simp [deps, waitsOn, Region.binds, knowing, isV, ownsV, anyV] at hd); simp only [putAll, List.take_succ_cons, List.take_zero, List.drop_succ_cons, List.drop_zero, Act.put, List.setIfInBounds_toArray, List.set_cons_zero, List.set_cons_succ, Nat.zero_add, Nat.reduceAdd]
   have e1 := cell_below hE HC.out.2.2
   go_simp
   exact ⟨Below.refl _ _, rfl⟩
  case r1s12 =>
   intro v W hE hd; simp only [Region.wanted, ↓reduceIte]; (try simp [deps, waitsOn, Region.binds, knowing, isV, ownsV, anyV] at hd); simp only [putAll, List.take_succ_cons, List.take_zero, List.drop_succ_cons, List.drop_zero, Act.put, List.setIfInBounds_toArray, List.set_cons_zero, List.set_cons_succ, Nat.zero_add, Nat.reduceAdd]
   go_simp
   obtain ⟨es, clock, hb, hM⟩ := (HM.out.ext hE).copy
   have HM2 := hid hM; clear hM
   refine (mapsClone_int m es clock W hb).mono ?_
   rintro e w5 ⟨rfl, rfl⟩
   clear hb
   go_simp
   exact ⟨(Below.refl _ _).alloc (Nat.le_refl _) _, _, rfl, hE.size, HM2.out⟩
 ·rintro v W hE ⟨-, -, -, e3, -, -, -, e7, -, -, -, -, e12, -⟩
  have e3 := (show v 3 = _ from e3)
  have e7 := (show v 7 = _ from e7)
  have e12 := (show _ from e12)
  simp only [putAll, List.take_succ_cons, List.take_zero, List.drop_succ_cons, List.drop_zero, Act.put, List.setIfInBounds_toArray, List.set_cons_zero, List.set_cons_succ, Nat.zero_add, Nat.reduceAdd]
  obtain ⟨m', e12, hm', hM'⟩ := e12
  rw [e3, e7, e12]
  have HM' := hid hM'
  have HE := hid hE
  have hmlt := hM'.lt
  clear hE e3 e7 e12 hM'
  go_wp2
  go_ret
  have hA : Ext W (W.alloc (.cells #[.iface t u, .slice A nq c, .map (some m')] 188)) := ext_alloc _ _
  have hE2 := Ext.trans' HE.out hA
  have hsz := HE.out.size
  have hls := HSt.out.lt
  refine ⟨W.heap.size, m', rfl, HE.out.size, hm', ⟨⟨A, c, ?_, ?_⟩, HM'.out.ext hA, .inr (.inl rfl), .inr (.inr rfl), by omega⟩, hE2⟩
  ·rw [HN.out]; exact heap_alloc_last _ _
  ·rw [HN.out]; exact slR_more Hq.out hE2 fun k hk => by
    rcases hk with h | h | h
    ·exact .inl h
    ·right; omega
    ·right; omega
end Go.Proofs.YtakebdeldndaaaaGreatDoor
