/- The reference's disk: Read, drop. -/
import Derived.Test.YtpipmkaljkhgiaaDoorRD4
import Derived.Test.YtpipmkaljkhgiaaDoorFound
namespace Go.Proofs.YtpipmkaljkhgiaaDoor
open Go Go.RowKit
set_option linter.unusedSimpArgs false
set_option linter.unusedVariables false

theorem idx_cases (F : Files) (nm : List UInt8) : (atF F nm = none ∧ idxI F nm = -1) ∨ ∃ (k : Nat) (hk : k < F.length) (f : File), atF F nm = some f ∧ idxI F nm = (k : Int) ∧ F[k]'hk = (nm, f) := by
  unfold idxI idxF atF
  cases h : F.findIdx? (·.1 == nm) with
  | none =>
    left
    rw [List.findIdx?_eq_none_iff] at h
    refine ⟨?_, rfl⟩
    have : F.find? (·.1 == nm) = none := by
      rw [List.find?_eq_none]
      intro p hp
      simpa using h p hp
    rw [this]; rfl
  | some k =>
    right
    obtain ⟨hk, h1, h2⟩ := List.findIdx?_eq_some_iff_getElem.1 h
    refine ⟨k, hk, F[k].2, ?_, rfl, ?_⟩
    · have : F.find? (·.1 == nm) = some F[k] := by
        rw [List.find?_eq_some_iff_getElem]
        exact ⟨h1, k, hk, rfl, fun j hj => by have := h2 j hj; simpa using this⟩
      rw [this]; rfl
    · rw [← show F[k].1 = nm by simpa using h1]
theorem delF_at {F : Files} (hu : Up F) {k : Nat} (hk : k < F.length) : delF F[k].1 F = F.take k ++ F.drop (k + 1) := by
  induction F generalizing k with
  | nil => simp at hk
  | cons p F ih =>
    obtain ⟨h1, h2⟩ := List.pairwise_cons.1 hu
    cases k with
    | zero =>
      have hn : ∀ q ∈ F, q.1 ≠ p.1 := fun q hq => (bb_ne (h1 q hq)).symm
      simp only [List.getElem_cons_zero, List.take_zero, List.nil_append, List.drop_succ_cons, List.drop_zero]
      unfold delF
      rw [List.filter_cons, if_neg (by simp), DelL_none p.1 F hn]
    | succ k =>
      have hk' : k < F.length := by simpa using hk
      have hne : p.1 ≠ F[k].1 := bb_ne (h1 _ (List.getElem_mem hk'))
      have ih := ih h2 hk'
      simp only [List.getElem_cons_succ, List.take_succ_cons, List.drop_succ_cons, List.cons_append]
      unfold delF at ih ⊢
      rw [List.filter_cons, if_pos (by simpa using hne), ih]
set_option maxRecDepth 100000 in
set_option maxHeartbeats 2000000 in
theorem read_ref {w : World} {S : Nat → Prop} {y g : Nat} {q l : Int} {F : Files} (h : RefIs w S y g q l F) (nm : List UInt8) :
    Calls Tryd.prog 33 #[.pointer (some ⟨y, 0, none⟩), .string (str nm)] w fun e w' => ∃ v, e = .returned (.tuple #[v, .int .i64 (readE F nm)]) ∧ OB w' w.heap.size v (readB F nm) ∧ Ext w w' := by
  have hcc := at_ref h nm
  obtain ⟨A0, c0, c2, hc, hcm, hcell⟩ := h.reads
  have hfew := h.few
  have Hok := hid h.ok
  obtain ⟨N, hN⟩ : ∃ N, N = F.length := ⟨_, rfl⟩
  rw [← hN] at c2 hfew hc
  have HN := hid hN
  clear h
  rcases idx_cases F nm with ⟨h1, h2⟩ | ⟨k, hk, f, h1, h2, h3⟩
  · have e1 := hid (show readE F nm = 11 by unfold readE; rw [h1]; rfl)
    have e2 := hid (show readB F nm = [] by unfold readB; rw [h1]; rfl)
    rw [h2] at hcc
    clear h1 h2 hcell hN
    go_enter Tryd.func33, Tryd.ntmps33
    go_wp2_with fail
    refine hcc.mono ?_
    rintro e w' ⟨rfl, rfl⟩
    clear hcc
    go_wp2
    go_ret2
    exact ⟨_, by rw [e1.out]; rfl, by rw [e2.out]; exact OB_none _ _, Below.refl _ _⟩
  · have e1 := hid (show readE F nm = 0 by unfold readE; rw [h1]; rfl)
    have e2 := hid (show readB F nm = f.b by unfold readB; rw [h1]; rfl)
    rw [h2] at hcc
    obtain ⟨gb, A1, c1, rfl, hgb, -, f1, -, hl1, hl2, hr⟩ := hcell k hk
    rw [h3] at f1 hr hl1
    have hb64 := (Hok.out F[k] (List.getElem_mem _)).1
    rw [h3] at hb64
    obtain ⟨n1, hn1⟩ : ∃ n1, n1 = f.b.length := ⟨_, rfl⟩
    rw [← hn1] at f1 hb64
    have Hn1 := hid hn1
    have Hr := hid (RK.rv hr)
    have hkN : (k : Int) < (N : Int) := by omega
    have hk0 : ¬ ((k : Int) < 0) := by omega
    have hk00 : (0 : Int) ≤ (k : Int) := by omega
    have HOe := hid (OB_empty w w.heap.size (Nat.le_refl _))
    have HEe := hid (show Ext w (w.alloc (.cells #[] 5)) from (Below.refl _ _).alloc (Nat.le_refl _) _)
    have f1' := cell_below HEe.out f1
    have c2' := cell_below HEe.out c2
    clear h1 h2 hcell hN h3 hr hn1 hk
    go_enter Tryd.func33, Tryd.ntmps33
    go_wp2_with fail
    refine hcc.mono ?_
    rintro e w' ⟨rfl, rfl⟩
    clear hcc
    go_wp2_with (at_builtin; refine wpList_appB (w0 := w) rfl (.tmp 12) (.tmp 20) rfl w.heap.size _ [] rfl HOe HEe (by simp) A1 c1 n1 f.b rfl Hn1 (Hr.out.below HEe.out) (by simp; omega) ?_; intro v2 W2 HO2 HB2 _)
    go_ret2
    exact ⟨_, by rw [e1.out]; rfl, by rw [e2.out]; exact HO2.out, HB2.out⟩
/-- An append as one step of a drawn region. -/
theorem step_app {P : Program} {o : Oper} {a : Act} {w w' : World} {K : Act → World → Prop} {Q : Exit → Act → World → Prop} (s x : Operand) {t u : TypeId} (ho : o.op = .call { callee := .builtin .append, args := #[s, x], argTypes := #[t, u] }) {vs vx v' : Value}
    (hs : a.eval s = vs) (hx : a.eval x = vx) (hrun : (Builtin.append_ #[t, u] o.type #[vs, vx]).run P w = .ok v' w') (h : K (a.put o.dst v') w') : o.wp P a w K Q := by
  unfold Oper.wp
  simp [execOp, ho, resolve, invoke, builtin, hs, hx, hrun, Result.andThen]
  exact h
/-- A file list's row of one's own. -/
def ownsK (S : Nat → Prop) (w0 : World) (xs : Files) : SPred := ⟨fun v w => OwnK RFile 75 (Imm w0 S) w w0.heap.size v xs ∧ w0.heap.size ≤ w.heap.size, fun _ _ _ h hE => ⟨h.1.ext hE fun k hk => Nat.lt_of_lt_of_le hk.1 h.2, Nat.le_trans h.2 hE.size⟩⟩
def ownsE (S : Nat → Prop) (w0 : World) : SPred := ⟨fun v w => ∃ g, v = .slice (some ⟨g, 0, none⟩) 0 0 ∧ OwnK RFile 75 (Imm w0 S) w w0.heap.size v [] ∧ w0.heap.size ≤ w.heap.size,
  fun _ _ _ ⟨g, e, h1, h2⟩ hE => ⟨g, e, h1.ext hE fun k hk => Nat.lt_of_lt_of_le hk.1 h2, Nat.le_trans h2 hE.size⟩⟩
/-- A part of the row, read. -/
theorem RefIs.part {w W : World} {S : Nat → Prop} {y g : Nat} {q l : Int} {F : Files} (h : RefIs w S y g q l F) (hE : Ext w W) (i j : Nat) (hij : i ≤ j) (hj : j ≤ F.length) : ∃ A0 c0 gb, w.cell? ⟨y, 2, none⟩ = some (.slice A0 F.length c0) ∧ (0 < F.length → A0 = some ⟨gb, 0, none⟩) ∧
    (0 < F.length → ∃ cs, Rows RFile W (Imm w S) ((F.take j).drop i) cs ∧ RV W (some ⟨gb, i * 3, none⟩) cs) := by
  obtain ⟨v, e1, hO, -⟩ := h.row
  obtain ⟨A0, c0, cs, rfl, hc, hcm, hr, hv⟩ := hO.read
  by_cases h0 : 0 < F.length
  · obtain ⟨gb, c1, e0, -⟩ := hO.at_ h0
    simp only [Value.slice.injEq] at e0
    obtain ⟨rfl, -, rfl⟩ := e0
    refine ⟨_, _, gb, e1, fun _ => rfl, fun _ => ⟨(cs.take (j * RFile.size)).drop (i * RFile.size), ((hr.take j).drop i).ext fun k hk => hE.block k hk.1, ?_⟩⟩
    have h1 := ((hv.take (j * RFile.size)).drop (i * RFile.size)).below hE
    rwa [Nat.zero_add] at h1
  · exact ⟨A0, c0, 0, e1, fun h => absurd h h0, fun h => absurd h h0⟩
/-- The row stored: any row of one's own. -/
theorem ref_stored2 {w W : World} {S : Nat → Prop} {y g : Nat} {q l : Int} {F F' : Files} {v : Value} {B : Nat} (h : RefIs w S y g q l F) (hu : Up F') (hok : OkF F') (hfew : F'.length ≤ 200)
    (hE : Ext w W) (hO : OwnK RFile 75 (Imm w S) W B v F') (hB : w.heap.size ≤ B) :
    ∃ S' g', RefIs (W.setCell ⟨y, 2, none⟩ v) S' y g' q l F' ∧ RStep w (W.setCell ⟨y, 2, none⟩ v) S S' y g ∧ (g' = g ∨ w.heap.size ≤ g') := by
  have hy := h.lt
  have hb := hE.block y hy
  obtain ⟨v0, e1, -, -⟩ := h.row
  have hsz := hE.size
  have hglt := h.glt
  obtain ⟨g', hob, hg'⟩ : ∃ g', (v.ownBlock = none ∨ v.ownBlock = some g') ∧ ((v.ownBlock = none ∧ g' = g) ∨ (v.ownBlock = some g' ∧ B ≤ g' ∧ g' < W.heap.size)) := by
    obtain ⟨cs, ho, -⟩ := hO
    cases hq : v.ownBlock with
    | none => exact ⟨g, .inl rfl, .inl ⟨rfl, rfl⟩⟩
    | some k => have := World.ownsRow.lt ho k hq; exact ⟨k, .inr rfl, .inr ⟨rfl, this.1, this.2⟩⟩
  have hgg : g' = g ∨ w.heap.size ≤ g' := by
    rcases hg' with ⟨-, h⟩ | ⟨-, h, -⟩
    · exact .inl h
    · exact .inr (by omega)
  have hgW : g' < W.heap.size := by
    rcases hg' with ⟨-, h⟩ | ⟨-, -, h⟩
    · omega
    · exact h
  have hS' : ∀ k, (W.setCell ⟨y, 2, none⟩ v).heap.size ≤ k → ¬ (S k ∨ k = g') := fun k hk => by
    have hk' : W.heap.size ≤ k := by simpa using hk
    rintro (h' | h')
    · exact h.fresh k (by omega) h'
    · omega
  refine ⟨fun k => S k ∨ k = g', g', ⟨?_, ?_, ?_, ⟨v, ?_, ?_, ?_⟩, .inl h.own, .inr rfl, by simpa using hgW, hS', hfew, hu, hok, h.lr⟩, ⟨⟨hE.os, hE.tape, hE.output, by simpa using hsz, fun k hk h1 _ => (heap_setCell_other W ⟨y, 2, none⟩ k v h1).trans (hE.block k hk)⟩, fun k hk => ⟨fun h' => by rcases h' with h' | h'; exact h'; rcases hgg with e | e; (rw [h', e]; exact h.ownG); omega, .inl⟩, hS'⟩, hgg⟩
  · exact (World.cell?_setCell_other (w := W) (a := ⟨y, 2, none⟩) (b := ⟨y, 0, none⟩) (v := v) (h := by simp)).trans ((World.cell?_of_block (a := ⟨y, 0, none⟩) hb).trans h.quota)
  · exact (World.cell?_setCell_other (w := W) (a := ⟨y, 2, none⟩) (b := ⟨y, 1, none⟩) (v := v) (h := by simp)).trans ((World.cell?_of_block (a := ⟨y, 1, none⟩) hb).trans h.left)
  · intro k; simp only [World.frozen?_setCell]; exact (World.frozen?_of_block (a := ⟨y, k, none⟩) hb).trans (h.free k)
  · exact World.cell?_setCell_same (w := W) (a := ⟨y, 2, none⟩) (h := (World.cell?_of_block (a := ⟨y, 2, none⟩) hb).trans e1) ..
  · refine ((OwnK.kept (w' := W.setCell ⟨y, 2, none⟩ v) hO (row := some y) ⟨rfl, rfl, rfl, by simp, fun k _ hk => heap_setCell_other W ⟨y, 2, none⟩ k v (fun e => hk (by rw [e]))⟩ ?_ fun k hk => ⟨by have := hk.1; omega, fun e => hk.2 (by simp only [Option.some.injEq] at e; rw [← e]; exact h.own)⟩).mono fun k hk => ⟨by have := hk.1; simp; omega, ?_⟩).base' (Nat.zero_le _)
    · rcases hg' with ⟨e, -⟩ | ⟨e, h1, -⟩
      · exact .inl e
      · exact .inr (by rw [e]; intro e'; simp only [Option.some.injEq] at e'; omega)
    rintro (h' | h')
    · exact hk.2 h'
    · rcases hgg with e | e
      · exact hk.2 (by rw [h', e]; exact h.ownG)
      · have := hk.1; omega
  · rcases hg' with ⟨e, -⟩ | ⟨e, h1, -⟩
    · exact .inl e
    · exact .inr ⟨e, by omega⟩
set_option maxRecDepth 100000 in
set_option maxHeartbeats 4000000 in
theorem drop_ref {w : World} {S : Nat → Prop} {y g : Nat} {q l : Int} {F : Files} (h : RefIs w S y g q l F) (nm : List UInt8) (f : File) (hat : atF F nm = some f) :
    Calls Tryd.prog 53 #[.pointer (some ⟨y, 0, none⟩), .string (str nm)] w fun e w' => e = .returned (.tuple #[]) ∧ ∃ S' g', RefIs w' S' y g' q l (delF nm F) ∧ RStep w w' S S' y g ∧ (g' = g ∨ w.heap.size ≤ g') := by
  have hcc := at_ref h nm
  obtain ⟨k, hk, h2, h3⟩ : ∃ (k : Nat) (hk : k < F.length), idxI F nm = (k : Int) ∧ F[k] = (nm, f) := by
    rcases idx_cases F nm with ⟨h1, -⟩ | ⟨k, hk, f', h1, h2, h3⟩
    · rw [hat] at h1; cases h1
    · rw [hat] at h1; cases h1; exact ⟨k, hk, h2, h3⟩
  rw [h2] at hcc
  have hdel := delF_at h.up hk
  rw [h3] at hdel
  have Hdel := hid hdel
  have H := hid h
  have hfew := h.few
  obtain ⟨A0, c0, c2, hc, hcm, hcell⟩ := h.reads
  obtain ⟨gb, -, -, rfl, -⟩ := hcell k hk
  obtain ⟨N, hN⟩ : ∃ N, N = F.length := ⟨_, rfl⟩
  rw [← hN] at c2 hfew hc
  have HN := hid hN
  have C2 := hid c2
  have hkN : k < N := by omega
  clear h hat h2 h3 hdel hcell hN c2 hk
  have hk1 : (k : Int) ≤ (c0 : Int) := by omega
  have hk2 : (k : Int) + 1 ≤ (N : Int) := by omega
  have hk3 : (0 : Int) ≤ (k : Int) := by omega
  have HP : Hid (∀ W, Ext w W → ∃ cs, Rows RFile W (Imm w S) (F.take k) cs ∧ RV W (some ⟨gb, 0, none⟩) cs) := fun W hE => by
    obtain ⟨A0', c0', gb', e1, e2, e3⟩ := H.out.part (W := W) hE 0 k (by omega) (by have := HN.out; omega)
    have hpos : 0 < F.length := by have := HN.out; omega
    rw [C2.out] at e1
    simp only [Option.some.injEq, Value.slice.injEq] at e1
    have e4 := e2 hpos
    rw [← e1.1] at e4
    simp only [Option.some.injEq, Addr.mk.injEq, and_true] at e4
    have e5 := e3 hpos
    rw [← e4, Nat.zero_mul, List.drop_zero] at e5
    exact e5
  obtain ⟨A2, hA2⟩ : ∃ A2, A2 = if c0 = k + 1 then some (⟨gb, 0, none⟩ : Addr) else some ⟨gb, (k + 1) * 3, none⟩ := ⟨_, rfl⟩
  have HP2 : Hid (∀ W, Ext w W → ∃ cs, Rows RFile W (Imm w S) (F.drop (k + 1)) cs ∧ RV W A2 cs) := fun W hE => by
    obtain ⟨A0', c0', gb', e1, e2, e3⟩ := H.out.part (W := W) hE (k + 1) N (by omega) (by have := HN.out; omega)
    have hpos : 0 < F.length := by have := HN.out; omega
    rw [C2.out] at e1
    simp only [Option.some.injEq, Value.slice.injEq] at e1
    have e4 := e2 hpos
    rw [← e1.1] at e4
    simp only [Option.some.injEq, Addr.mk.injEq, and_true] at e4
    have e5 := e3 hpos
    rw [← e4, List.take_of_length_le (by have := HN.out; omega)] at e5
    rw [hA2]
    by_cases hck : c0 = k + 1
    · rw [if_pos hck]
      have : F.drop (k + 1) = [] := List.drop_eq_nil_of_le (by have := HN.out; omega)
      rw [this]
      exact ⟨[], rfl, .inl rfl⟩
    · rw [if_neg hck]; exact e5
  have HL2 := hid (show N - (k + 1) = (F.drop (k + 1)).length by rw [List.length_drop, ← HN.out])
  have HA2 := hid hA2
  have HFZ : Hid (∀ wr : World, Ext w wr → wr.frozen? ⟨y, 2, none⟩ = false) := fun wr hb => (World.frozen?_of_block (a := ⟨y, 2, none⟩) (hb.block y H.out.lt)).trans (H.out.free 2)
  clear hA2
  go_enter Tryd.func53, Tryd.ntmps53
  go_wp2_with fail
  refine hcc.mono ?_
  rintro e w' ⟨rfl, rfl⟩
  clear hcc
  go_wp2_with fail
  apply wp_drawn_late 16 0 [isV _, ownsE S w, isV _, isV _, isV _, isV _, isV _, isV _, ownsK S w (F.take k), isV _, isV _, isV _, isV _, isV _, isV (.int .i64 ((k : Int) + 1)), isV (.slice A2 (N - (k + 1)) (c0 - (k + 1)))] (by decide) (by kernel_rfl)
  · kernel_rfl
  · kernel_rfl
  · refine ⟨?r1s0, ?r1s1, ?r1s2, ?r1s3, ?r1s4, ?r1s5, ?r1s6, ?r1s7, ?r1s8, ?r1s9, ?r1s10, ?r1s11, ?r1s12, ?r1s13, ?r1s14, ?r1s15, trivial⟩
    case r1s0 =>
      intro v W hE hd; simp only [Region.wanted, ↓reduceIte]; (try simp [deps, waitsOn, Region.binds, knowing, isV, ownsV, anyV] at hd); simp only [putAll, List.take_succ_cons, List.take_zero, List.drop_succ_cons, List.drop_zero, Act.put, List.setIfInBounds_toArray, List.set_cons_zero, List.set_cons_succ, Nat.zero_add, Nat.reduceAdd]; go_simp; exact ⟨Below.refl _ _, rfl⟩
    case r1s1 =>
      intro v W hE hd; simp only [Region.wanted, ↓reduceIte]; (try simp [deps, waitsOn, Region.binds, knowing, isV, ownsV, anyV] at hd); simp only [putAll, List.take_succ_cons, List.take_zero, List.drop_succ_cons, List.drop_zero, Act.put, List.setIfInBounds_toArray, List.set_cons_zero, List.set_cons_succ, Nat.zero_add, Nat.reduceAdd]
      go_simp
      exact ⟨(Below.refl _ _).alloc (Nat.le_refl _) _, _, rfl, OwnK.empty W _ hE.size, by have := hE.size; simp; omega⟩
    case r1s2 =>
      intro v W hE hd; simp only [Region.wanted, ↓reduceIte]; (try simp [deps, waitsOn, Region.binds, knowing, isV, ownsV, anyV] at hd); simp only [putAll, List.take_succ_cons, List.take_zero, List.drop_succ_cons, List.drop_zero, Act.put, List.setIfInBounds_toArray, List.set_cons_zero, List.set_cons_succ, Nat.zero_add, Nat.reduceAdd]; go_simp; exact ⟨Below.refl _ _, rfl⟩
    case r1s3 =>
      intro v W hE hd; simp only [Region.wanted, ↓reduceIte]; (try simp [deps, waitsOn, Region.binds, knowing, isV, ownsV, anyV] at hd); simp only [putAll, List.take_succ_cons, List.take_zero, List.drop_succ_cons, List.drop_zero, Act.put, List.setIfInBounds_toArray, List.set_cons_zero, List.set_cons_succ, Nat.zero_add, Nat.reduceAdd]; go_simp; exact ⟨Below.refl _ _, rfl⟩
    case r1s4 =>
      intro v W hE hd; simp only [Region.wanted, ↓reduceIte]; (try simp [deps, waitsOn, Region.binds, knowing, isV, ownsV, anyV] at hd); simp only [putAll, List.take_succ_cons, List.take_zero, List.drop_succ_cons, List.drop_zero, Act.put, List.setIfInBounds_toArray, List.set_cons_zero, List.set_cons_succ, Nat.zero_add, Nat.reduceAdd]; go_simp; exact ⟨Below.refl _ _, rfl⟩
    case r1s5 =>
      intro v W hE hd; simp only [Region.wanted, ↓reduceIte]; (try simp [deps, waitsOn, Region.binds, knowing, isV, ownsV, anyV] at hd); simp only [putAll, List.take_succ_cons, List.take_zero, List.drop_succ_cons, List.drop_zero, Act.put, List.setIfInBounds_toArray, List.set_cons_zero, List.set_cons_succ, Nat.zero_add, Nat.reduceAdd]
      have e1 := cell_below hE C2.out
      go_simp
      exact ⟨Below.refl _ _, rfl⟩
    case r1s6 =>
      intro v W hE hd; simp only [Region.wanted, ↓reduceIte]; (try simp [deps, waitsOn, Region.binds, knowing, isV, ownsV, anyV] at hd); simp only [putAll, List.take_succ_cons, List.take_zero, List.drop_succ_cons, List.drop_zero, Act.put, List.setIfInBounds_toArray, List.set_cons_zero, List.set_cons_succ, Nat.zero_add, Nat.reduceAdd]; go_simp; exact ⟨Below.refl _ _, rfl⟩
    case r1s7 =>
      intro v W hE hd; simp only [Region.wanted, ↓reduceIte]; (try simp [deps, waitsOn, Region.binds, knowing, isV, ownsV, anyV] at hd); simp only [putAll, List.take_succ_cons, List.take_zero, List.drop_succ_cons, List.drop_zero, Act.put, List.setIfInBounds_toArray, List.set_cons_zero, List.set_cons_succ, Nat.zero_add, Nat.reduceAdd]
      go_simp
      exact ⟨Below.refl _ _, rfl⟩
    case r1s8 =>
      intro v W hE hd; simp only [Region.wanted, ↓reduceIte]; (try simp [deps, waitsOn, Region.binds, knowing, isV, ownsV, anyV] at hd); simp only [putAll, List.take_succ_cons, List.take_zero, List.drop_succ_cons, List.drop_zero, Act.put, List.setIfInBounds_toArray, List.set_cons_zero, List.set_cons_succ, Nat.zero_add, Nat.reduceAdd]
      obtain ⟨⟨ge, e1, h1, h2⟩, e7⟩ := hd
      rw [e1] at h1
      obtain ⟨v', w', hrun, hO', hE'⟩ := run_app_fullK (P := Tryd.prog) finfo 66 ge 0 rfl h1 h2 (fun k hk => Nat.lt_of_lt_of_le hk.1 h2) (some ⟨gb, 0, none⟩) c0 k (F.take k) (by rw [List.length_take]; have := HN.out; omega) (HP.out W hE) (by omega) (by omega)
      refine step_app (.tmp 9) (.tmp 15) rfl e1 e7 hrun ?_
      exact ⟨_, rfl, hE', hO', Nat.le_trans h2 hE'.size⟩
    case r1s9 =>
      intro v W hE hd; simp only [Region.wanted, ↓reduceIte]; (try simp [deps, waitsOn, Region.binds, knowing, isV, ownsV, anyV] at hd); simp only [putAll, List.take_succ_cons, List.take_zero, List.drop_succ_cons, List.drop_zero, Act.put, List.setIfInBounds_toArray, List.set_cons_zero, List.set_cons_succ, Nat.zero_add, Nat.reduceAdd]; go_simp; exact ⟨Below.refl _ _, rfl⟩
    case r1s10 =>
      intro v W hE hd; simp only [Region.wanted, ↓reduceIte]; (try simp [deps, waitsOn, Region.binds, knowing, isV, ownsV, anyV] at hd); simp only [putAll, List.take_succ_cons, List.take_zero, List.drop_succ_cons, List.drop_zero, Act.put, List.setIfInBounds_toArray, List.set_cons_zero, List.set_cons_succ, Nat.zero_add, Nat.reduceAdd]; go_simp; exact ⟨Below.refl _ _, rfl⟩
    case r1s11 =>
      intro v W hE hd; simp only [Region.wanted, ↓reduceIte]; (try simp [deps, waitsOn, Region.binds, knowing, isV, ownsV, anyV] at hd); simp only [putAll, List.take_succ_cons, List.take_zero, List.drop_succ_cons, List.drop_zero, Act.put, List.setIfInBounds_toArray, List.set_cons_zero, List.set_cons_succ, Nat.zero_add, Nat.reduceAdd]; go_simp; exact ⟨Below.refl _ _, rfl⟩
    case r1s12 =>
      intro v W hE hd; simp only [Region.wanted, ↓reduceIte]; (try simp [deps, waitsOn, Region.binds, knowing, isV, ownsV, anyV] at hd); simp only [putAll, List.take_succ_cons, List.take_zero, List.drop_succ_cons, List.drop_zero, Act.put, List.setIfInBounds_toArray, List.set_cons_zero, List.set_cons_succ, Nat.zero_add, Nat.reduceAdd]
      have e1 := cell_below hE C2.out
      go_simp
      exact ⟨Below.refl _ _, rfl⟩
    case r1s13 =>
      intro v W hE hd; simp only [Region.wanted, ↓reduceIte]; (try simp [deps, waitsOn, Region.binds, knowing, isV, ownsV, anyV] at hd); simp only [putAll, List.take_succ_cons, List.take_zero, List.drop_succ_cons, List.drop_zero, Act.put, List.setIfInBounds_toArray, List.set_cons_zero, List.set_cons_succ, Nat.zero_add, Nat.reduceAdd]; go_simp; exact ⟨Below.refl _ _, rfl⟩
    case r1s14 =>
      intro v W hE hd; simp only [Region.wanted, ↓reduceIte]; (try simp [deps, waitsOn, Region.binds, knowing, isV, ownsV, anyV] at hd); simp only [putAll, List.take_succ_cons, List.take_zero, List.drop_succ_cons, List.drop_zero, Act.put, List.setIfInBounds_toArray, List.set_cons_zero, List.set_cons_succ, Nat.zero_add, Nat.reduceAdd]
      have e1 := hid (show IntKind.i64.wrap ((k : Int) + 1) = (k : Int) + 1 by rw [IntKind.wrap_i64]; omega)
      go_simp
      rw [e1.out]
      exact ⟨Below.refl _ _, rfl⟩
    case r1s15 =>
      intro v W hE hd; simp only [Region.wanted, ↓reduceIte]; (try simp [deps, waitsOn, Region.binds, knowing, isV, ownsV, anyV] at hd); simp only [putAll, List.take_succ_cons, List.take_zero, List.drop_succ_cons, List.drop_zero, Act.put, List.setIfInBounds_toArray, List.set_cons_zero, List.set_cons_succ, Nat.zero_add, Nat.reduceAdd]
      have e1 : (0 : Int) ≤ (k : Int) + 1 := by omega
      have e2 : ((k : Int) + 1).toNat = k + 1 := by omega
      by_cases hck : c0 = k + 1
      · go_simp
        exact ⟨Below.refl _ _, by rw [HA2.out, if_pos hck]; rfl⟩
      · go_simp
        exact ⟨Below.refl _ _, by rw [HA2.out, if_neg hck]; rfl⟩
  · rintro v W hE ⟨e0, -, -, -, -, -, -, -, e8, -, -, -, -, -, -, e15, -⟩
    have e0 := (show v 0 = _ from e0)
    have e8 := (show _ from e8)
    have e15 := (show v 15 = _ from e15)
    simp only [putAll, List.take_succ_cons, List.take_zero, List.drop_succ_cons, List.drop_zero, Act.put, List.setIfInBounds_toArray, List.set_cons_zero, List.set_cons_succ, Nat.zero_add, Nat.reduceAdd]
    rw [e0, e15]
    clear e0
    obtain ⟨hO8, hsz⟩ := e8
    have HO8 := hid hO8
    have HBW := hid hE
    have HP2W := hid (HP2.out W hE)
    clear e15 hO8 hE
    go_wp2_with (at_builtin; refine wpList_appK (w0 := w) (R := RFile) (K := Imm w S) (xs := F.take k) (base := w.heap.size) finfo rfl (.tmp 16) (.tmp 23) rfl rfl HO8 (fun k hk => hk.1) HBW hsz A2 (N - (k + 1)) (c0 - (k + 1)) (F.drop (k + 1)) rfl HL2 HP2W (by rw [List.length_take]; omega) (by rw [List.length_take]; omega) ?_; intro v2 W2 HA3 HB3 _; obtain ⟨A9, c9, cs9, rfl, -⟩ := HA3.out.read; obtain ⟨L, hL⟩ : ∃ L, L = (F.take k ++ F.drop (k + 1)).length := ⟨_, rfl⟩; rw [← hL] at HA3 ⊢; clear hL; have c2' := cell_below HB3.out C2.out; have hfz := HFZ.out _ HB3.out)
    rw [← Hdel.out] at HA3
    go_wp2
    go_end0
    exact ⟨rfl, ref_stored2 H.out (up_delF H.out.up nm) (ok_delF H.out.ok nm) (Nat.le_trans (length_delF_le nm F) H.out.few) HB3.out HA3.out (Nat.le_refl _)⟩
  · rintro v W om hom hE ⟨-, -, -, -, -, -, -, -, e8, -, -, -, -, -, -, e15, -⟩ hold
    have e8 := (show _ from e8 (by decide))
    have e15 := (show v 15 = _ from e15 (by decide))
    obtain rfl := Option.some.inj hom
    clear hom hold
    simp only [putAll, List.take_succ_cons, List.take_zero, List.drop_succ_cons, List.drop_zero, Act.put, List.setIfInBounds_toArray, List.set_cons_zero, List.set_cons_succ, Nat.zero_add, Nat.reduceAdd]
    (try simp only [List.cons_append, List.nil_append, List.take_zero, List.take_succ_cons, List.drop_zero, List.drop_succ_cons])
    rw [e15]
    obtain ⟨hO8, hsz⟩ := e8
    have HO8 := hid hO8
    have HBW := hid hE
    have HP2W := hid (HP2.out W hE)
    clear e15 hO8 hE
    go_wp2_with (at_builtin; refine wpList_appK (w0 := w) (R := RFile) (K := Imm w S) (xs := F.take k) (base := w.heap.size) finfo rfl (.tmp 16) (.tmp 23) rfl rfl HO8 (fun k hk => hk.1) HBW hsz A2 (N - (k + 1)) (c0 - (k + 1)) (F.drop (k + 1)) rfl HL2 HP2W (by rw [List.length_take]; omega) (by rw [List.length_take]; omega) ?_; intro v2 W2 HA3 HB3 _; obtain ⟨A9, c9, cs9, rfl, -⟩ := HA3.out.read; obtain ⟨L, hL⟩ : ∃ L, L = (F.take k ++ F.drop (k + 1)).length := ⟨_, rfl⟩; rw [← hL] at HA3 ⊢; clear hL; have c2' := cell_below HB3.out C2.out; have hfz := HFZ.out _ HB3.out)
    rw [← Hdel.out] at HA3
    go_wp2
    go_end0
    exact ⟨rfl, ref_stored2 H.out (up_delF H.out.up nm) (ok_delF H.out.ok nm) (Nat.le_trans (length_delF_le nm F) H.out.few) HB3.out HA3.out (Nat.le_refl _)⟩
end Go.Proofs.YtpipmkaljkhgiaaDoor
