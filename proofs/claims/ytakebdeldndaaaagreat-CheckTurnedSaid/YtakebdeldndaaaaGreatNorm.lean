/- A query brought in order: one that may be is as it was. -/
import Derived.Test.YtakebdeldndaaaaGreatSeq1
import Derived.Test.YtakebdeldndaaaaGreatQu
import Derived.Test.YtakebdeldndaaaaGreatPhaseG
namespace Go.Proofs.YtakebdeldndaaaaGreat
open Go Go.RowKit
set_option linter.unusedSimpArgs false
set_option linter.unusedVariables false

theorem rise_sorted {xs : List Str} (h : riseB xs = true) : xs.mergeSort (fun x y => decide (x ≤ y)) = xs := sort_names (List.Perm.refl _) (rise_pairwise h)
theorem rise_compact_self {xs : List Str} (h : riseB xs = true) : Lib.compact xs = xs := by
  have hk : ∀ j, j < xs.length → Lib.keeps xs.toArray j = true := by
    intro j hj
    match j, hj with
    | 0, _ => rfl
    | j + 1, hj =>
      refine Lib.keeps_pos ?_
      have e1 : (xs.toArray)[j + 1]! = xs[j + 1] := by simp [hj]
      have e2 : (xs.toArray)[j]! = xs[j]'(by omega) := by have hj' : j < xs.length := by omega
                                                          simp [hj']
      rw [Nat.add_sub_cancel, e1, e2]
      exact fun e => tb_ne ((rise_iff xs).1 h j hj) e.symm
  unfold Lib.compact Lib.compactUpTo
  rw [List.filter_eq_self.2 (fun j hj => hk j (List.mem_range.1 hj))]
  apply List.ext_getElem
  · simp
  · intro i h1 h2
    simp [h2]
set_option maxRecDepth 100000 in
theorem values_at (w : World) (A : Option Addr) (n c : Nat) : Calls Tryz.prog 110 #[.slice A n c] w fun e w' => e = .returned (.func (.func 122) #[] #[.pointer (some ⟨w.heap.size, 0, none⟩)]) ∧ w' = w.alloc (.cells #[.slice A n c] 43) := by
  go_enter Tryz.func110, Tryz.ntmps110
  go_wp2
  go_ret
  exact ⟨rfl, rfl⟩
set_option maxRecDepth 100000 in
set_option maxHeartbeats 4000000 in
theorem sortedQ_at {w : World} {A : Option Addr} {n c : Nat} {xs : List Str} (h : SlR Rep.txt w (· < w.heap.size) A n c xs) (hn : n ≤ 1000000) (hr : riseB xs = true) :
    Calls Tryz.prog 84 #[.slice A n c] w fun e w' => ∃ v, e = .returned v ∧ OwnT w' w.heap.size v xs ∧ Ext w w' := by
  have HE0 := hid (ext_alloc w (.cells #[.slice A n c] 43))
  have hc0 : (w.alloc (.cells #[.slice A n c] 43)).cell? ⟨w.heap.size, 0, none⟩ = some (.slice A n c) := by rw [cell_of_row _ _ _ _ _ _ (heap_alloc_last w _)]; rfl
  have hs := sortedValues_txt (h.grow HE0.out) hn w.heap.size (by simp) hc0
  rw [rise_sorted hr] at hs
  have Hr := hid (rise_compact_self hr)
  clear h hc0 hr
  go_enter Tryz.func84, Tryz.ntmps84
  go_wp2_with fail
  refine (values_at w A n c).mono ?_
  rintro e w' ⟨rfl, rfl⟩
  go_wp2_with fail
  refine hs.mono ?_
  rintro e w2 ⟨v, rfl, ho, hE⟩
  have HO := hid ho
  have Hsz := hid hE.size
  have HE2 := hid (Ext.trans' HE0.out hE)
  have Hz0 := hid HE0.out.size
  clear hs ho hE
  go_wp2_with fail
  refine (compact_txt HO.out Hsz.out).mono ?_
  rintro e w3 ⟨v2, rfl, ho2, hB⟩
  rw [Hr.out] at ho2
  have HO2 := hid (show OwnT w3 w.heap.size v2 xs from ownsRow_base ho2 Hz0.out)
  have HE3 := hid (HE2.out.trans (hB.mono Hz0.out))
  clear ho2 hB
  go_wp2
  go_ret
  exact ⟨_, rfl, HO2.out, HE3.out⟩
/-- A row of one's own, its elements leading to blocks from n1 on. -/
def OwnX {α : Type} (R : Rep α) (e : TypeId) (n1 : Nat) (w : World) (base : Nat) (v : Value) (xs : List α) : Prop :=
  ∃ cs, w.ownsRow base e R.size v xs.length cs ∧ Rows R w (fun k => n1 ≤ k ∧ k < w.heap.size ∧ v.ownBlock ≠ some k) xs cs
section
variable {α : Type} {R : Rep α} {e : TypeId} {n1 : Nat} {w w' : World} {base : Nat} {v : Value} {xs : List α}
theorem OwnX.ext (h : OwnX R e n1 w base v xs) (hE : Ext w w') : OwnX R e n1 w' base v xs := by
  obtain ⟨cs, ho, hr⟩ := h
  refine ⟨cs, World.ownsRow.kept (row := none) ho ⟨hE.os, hE.tape, hE.output, hE.size, fun i hi _ => hE.block i hi⟩ (by cases v.ownBlock <;> simp), ?_⟩
  exact (hr.ext fun k hk => hE.block k hk.2.1).mono fun k hk => ⟨hk.1, Nat.lt_of_lt_of_le hk.2.1 hE.size, hk.2.2⟩
theorem OwnX.nil (w : World) (base : Nat) : OwnX R e n1 w base (.slice none 0 0) [] := ⟨[], World.ownsRow_nil w base e R.size, rfl⟩
theorem OwnX.lt (h : OwnX R e n1 w base v xs) (k : Nat) (hk : v.ownBlock = some k) : base ≤ k ∧ k < w.heap.size := by
  obtain ⟨cs, ho, -⟩ := h
  exact World.ownsRow.lt ho k hk
theorem OwnX.not_box {ob : Nat} {t : TypeId} {u : Value} (h : OwnX R e n1 w base v xs) (hb : Boxed w ob t u) (hte : t ≠ e) : v.ownBlock ≠ some ob := by
  obtain ⟨cs, ho, -⟩ := h
  exact fun e => hb.not_row hte ho e.symm
theorem OwnX.set {ob : Nat} (x : Value) (h : OwnX R e n1 w base v xs) (hob : ob < n1) (hne : v.ownBlock ≠ some ob) : OwnX R e n1 (w.setCell ⟨ob, 0, none⟩ x) base v xs := by
  obtain ⟨cs, ho, hr⟩ := h
  refine ⟨cs, ho.kept (grownBy_setCell' w ob x) (.inr hne), ?_⟩
  have hs : (w.setCell ⟨ob, 0, none⟩ x).heap.size = w.heap.size := by simp
  refine (hr.ext fun k hk => heap_setCell_other w ⟨ob, 0, none⟩ k x (fun e => ?_)).mono fun k hk => ⟨hk.1, by rw [hs]; exact hk.2.1, hk.2.2⟩
  have : k = ob := e
  omega
theorem OwnX.read (h : OwnX R e n1 w base v xs) (hn : base ≤ n1) : ∃ A c, v = .slice A xs.length c ∧ SlR R w (fun k => base ≤ k ∧ k < w.heap.size) A xs.length c xs := by
  obtain ⟨cs, ho, hr⟩ := h
  obtain ⟨A, c, e, hc, hv⟩ := RV.own ho
  have hlt := World.ownsRow.lt ho
  have hm : c ≤ 9223372036854775807 := by
    rcases ho.2 with ⟨h1, h2⟩ | ⟨g, cap, cur, h1, _, _, _, hm, _⟩
    · rw [h1] at e; simp only [Value.slice.injEq] at e; omega
    · rw [h1] at e; simp only [Value.slice.injEq] at e; simp only [maxLen] at hm; omega
  refine ⟨A, c, e, rfl, hc, hm, cs, hr.mono (fun k hk => ⟨Nat.le_trans hn hk.1, hk.2.1⟩), RK.of_rv hv fun b o eA h => ⟨?_, h⟩⟩
  have : v.ownBlock = some b := by
    rw [e, eA]; rfl
  exact (hlt b this).1
/-- An append onto it, as a run. -/
theorem run_appX {P : Program} {t : TypeId} {z : Value} {bytes : Nat} (S : SlInfo P t e z R.size bytes) (ty : TypeId) (hown : OwnX R e n1 w base v xs) (hbase : base ≤ w.heap.size)
    (a : Addr) (m c : Nat) (news : List α) (hm : m = news.length) (hr : ∃ cs, Rows R w (fun k => n1 ≤ k ∧ k < w.heap.size ∧ v.ownBlock ≠ some k) news cs ∧ RV w (some a) cs) (hmax : xs.length + m ≤ 1000000) (hbytes : bytes ≤ 1000) :
    ∃ v' w', (Builtin.append_ #[t, t] ty #[v, .slice (some a) m c]).run P w = .ok v' w' ∧ OwnX R e n1 w' base v' (xs ++ news) ∧ w.grownBy w' v.ownBlock ∧ (v'.ownBlock = v.ownBlock ∨ v'.ownBlock = some w.heap.size) := by
  subst hm
  obtain ⟨i, hi, hii⟩ := Option.map_eq_some_iff.1 S.hi
  simp only [Prod.mk.injEq] at hii
  obtain ⟨hz0, hz1, hz2⟩ := hii
  obtain ⟨cs, hrow, hrd⟩ := hr
  obtain ⟨ds, hds, hdrow⟩ := hown
  have hb : (xs.length + news.length) * bytes ≤ 140737488355328 := by
    have := Nat.mul_le_mul hmax hbytes
    omega
  obtain ⟨v', w', hrun, ho, hg, -, hat⟩ := run_append_own_at (P := P) (w := w) base t ty e i z R.size bytes S.ht hi hz0 hz1 hz2 S.hz S.hs v xs.length ds hds a news.length c cs hrow.len (by
    rcases hrd with rfl | ⟨b, o', e', h⟩
    · intro j u hu; simp at hu
    · simp only [Option.some.injEq] at e'
      subst e'
      intro j u hu
      have := h j u hu
      rwa [Addr.add_lit]) hrow.one (by simp only [maxLen]; omega) hb hbase
  refine ⟨v', w', hrun, ⟨ds ++ cs, by rw [List.length_append]; exact ho, ?_⟩, hg, hat⟩
  have hall := hdrow.append hrow
  refine (hall.ext fun k hk => hg.block k hk.2.1 (fun e => hk.2.2 e.symm)).mono fun k hk => ⟨hk.1, Nat.lt_of_lt_of_le hk.2.1 hg.size, ?_⟩
  rcases hat with e | e
  · rw [e]; exact hk.2.2
  · rw [e]; intro h'; have := hk.2.1; simp at h'; omega
end
theorem clinfo : SlInfo Tryz.prog 46 45 (.agg #[.slice none 0 0, .slice none 0 0]) RCl.size 48 := ⟨Tryz.underlying46, by kernel_rfl, rfl, by decide⟩
/-- Blocks made since. -/
def Yg (n0 : Nat) (W : World) (k : Nat) : Prop := n0 ≤ k ∧ k < W.heap.size
/-- Nothing made since turns. -/
structure Keeps (n0 : Nat) (W W' : World) : Prop where
  size : W.heap.size ≤ W'.heap.size
  same : ∀ j, n0 ≤ j → j < W.heap.size → W'.heap[j]? = W.heap[j]?
theorem Keeps.of_ext {n0 : Nat} {W W' : World} (h : Ext W W') : Keeps n0 W W' := ⟨h.size, fun j _ hj => h.block j hj⟩
structure KeepsBut (ob : Nat) (W W' : World) : Prop where
  size : W.heap.size ≤ W'.heap.size
  same : ∀ j, j < W.heap.size → j ≠ ob → W'.heap[j]? = W.heap[j]?
theorem KeepsBut.keeps {ob n0 : Nat} {W W' : World} (h : KeepsBut ob W W') (hn : ob < n0) : Keeps n0 W W' := ⟨h.size, fun j hj hlt => h.same j hlt (by omega)⟩
theorem yg_keep {α : Type} {R : Rep α} {n0 : Nat} {W W' : World} {A : Option Addr} {n c : Nat} {xs : List α} (h : SlR R W (Yg n0 W) A n c xs) (hk : Keeps n0 W W') : SlR R W' (Yg n0 W') A n c xs :=
  (h.ext fun k hk' => hk.same k hk'.1 hk'.2).mono fun k hk' => ⟨hk'.1, Nat.lt_of_lt_of_le hk'.2 hk.size⟩
/-- What is known of the parts. -/
def pT (n0 : Nat) (xs : List Str) : SPred := ⟨fun v W => ∃ A c, v = .slice A xs.length c ∧ SlR Rep.txt W (Yg n0 W) A xs.length c xs, fun _ _ _ ⟨A, c, e, h⟩ hE => ⟨A, c, e, yg_keep h (.of_ext hE)⟩⟩
def pC (n0 : Nat) (c : ClV) : SPred := ⟨fun v W => ∃ A a B b, v = .agg #[.slice A c.tags.length a, .slice B c.types.length b] ∧ SlR Rep.txt W (Yg n0 W) A c.tags.length a c.tags ∧ SlR Rep.txt W (Yg n0 W) B c.types.length b c.types,
  fun _ _ _ ⟨A, a, B, b, e, h1, h2⟩ hE => ⟨A, a, B, b, e, yg_keep h1 (.of_ext hE), yg_keep h2 (.of_ext hE)⟩⟩
theorem cls_keep {n0 : Nat} {W W' : World} {ad : Nat} {cl : ClV} (h : ∃ cs, Rows RCl W (Yg n0 W) [cl] cs ∧ RV W (some ⟨ad, 0, none⟩) cs ∧ n0 ≤ ad) (hk : Keeps n0 W W') : ∃ cs, Rows RCl W' (Yg n0 W') [cl] cs ∧ RV W' (some ⟨ad, 0, none⟩) cs ∧ n0 ≤ ad := by
  obtain ⟨cs, h1, h2, h3⟩ := h
  refine ⟨cs, (h1.ext fun k hk' => hk.same k hk'.1 hk'.2).mono fun k hk' => ⟨hk'.1, Nat.lt_of_lt_of_le hk'.2 hk.size⟩, ?_, h3⟩
  rcases h2 with h2 | ⟨b, o, e, h2⟩
  · exact .inl h2
  · simp only [Option.some.injEq, Addr.mk.injEq, and_true] at e
    obtain ⟨rfl, rfl⟩ := e
    refine .inr ⟨ad, 0, rfl, fun j v hv => ?_⟩
    have := h2 j v hv
    rw [← this]
    exact World.cell?_of_block (hk.same ad h3 (World.block_lt_of_cell? W ⟨ad, 0 + j, none⟩ this))
def pS (n0 : Nat) (cl : ClV) : SPred := ⟨fun v W => ∃ ad, v = .slice (some ⟨ad, 0, none⟩) 1 1 ∧ ∃ cs, Rows RCl W (Yg n0 W) [cl] cs ∧ RV W (some ⟨ad, 0, none⟩) cs ∧ n0 ≤ ad,
  fun _ _ _ ⟨ad, e, h⟩ hE => ⟨ad, e, cls_keep h (.of_ext hE)⟩⟩
def pO (base n1 ob : Nat) (xs : List ClV) : SPred := ⟨fun v W => OwnX RCl 45 n1 W base v xs ∧ v.ownBlock ≠ some ob, fun _ _ _ h hE => ⟨h.1.ext hE, h.2⟩⟩
theorem pO_but {base n1 ob : Nat} {xs : List ClV} {v : Value} {W W' : World} (hob : ob < n1) (h : (pO base n1 ob xs).p v W) (hk : KeepsBut ob W W') : (pO base n1 ob xs).p v W' := by
  obtain ⟨⟨cs, ho, hr⟩, hne⟩ := h
  refine ⟨⟨cs, ?_, (hr.ext fun k hk' => hk.same k hk'.2.1 (by omega)).mono fun k hk' => ⟨hk'.1, Nat.lt_of_lt_of_le hk'.2.1 hk.size, hk'.2.2⟩⟩, hne⟩
  refine ⟨ho.1, ?_⟩
  rcases ho.2 with h | ⟨g, cap, cur, rfl, hb, hg, r⟩
  · exact .inl h
  · refine .inr ⟨g, cap, cur, rfl, hb, ?_, r⟩
    rw [hk.same g (Array.getElem?_eq_some_iff.1 hg).1 (fun e => hne (by rw [e]; rfl))]
    exact hg
theorem norm_mem {q : List ClV} (h : mayQ q = 0) {c : ClV} (hc : c ∈ q) : riseB c.tags = true ∧ riseB c.types = true ∧ c.tags.length ≤ 1000000 ∧ c.types.length ≤ 1000000 := by
  unfold mayQ at h
  split at h
  · cases h
  rename_i h1
  split at h
  · cases h
  split at h
  · cases h
  rename_i h3
  have h1' : q.any bigC = false := by
    cases hb : q.any bigC
    · rfl
    · rw [hb, Bool.or_true] at h1; exact absurd rfl h1
  obtain ⟨l1, l2⟩ := big_lens h1' hc
  have h3' : riseC c = false := by
    cases hb : riseC c
    · rfl
    · exact absurd (List.any_eq_true.2 ⟨c, hc, hb⟩) h3
  unfold riseC at h3'
  simp only [Bool.or_eq_false_iff, Bool.not_eq_false'] at h3'
  exact ⟨h3'.1, h3'.2, l1, l2⟩
theorem norm_len {q : List ClV} (h : mayQ q = 0) : q.length ≤ 4 := by
  unfold mayQ at h
  split at h
  · cases h
  rename_i h1
  simp only [Bool.or_eq_true, decide_eq_true_eq, not_or] at h1
  omega
end Go.Proofs.YtakebdeldndaaaaGreat
