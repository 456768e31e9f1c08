/- Several texts of this claim's, one behind the other. -/
import Derived.Test.YtakebdeldndaaaaGreatDoorSeq1
import Derived.Test.YtakebdeldndaaaaGreatDoorQu
import Derived.Test.YtakebdeldndaaaaGreatDoorPhaseG
/- A query brought in order: one that may be is as it was. -/
namespace Go.Proofs.YtakebdeldndaaaaGreatDoor
open Go Go.RowKit
set_option linter.unusedSimpArgs false
set_option linter.unusedVariables false
theorem rise_sorted {xs : List Str} (h : riseB xs = true) : xs.mergeSort (fun x y => decide (x ≤ y)) = xs := sort_names (List.Perm.refl _) (rise_pairwise h)
theorem rise_compact_self {xs : List Str} (h : riseB xs = true) : Lib.compact xs = xs := by
 have hk : ∀ j, j < xs.length → Lib.keeps xs.toArray j = true := by
  intro j hj
  match j, hj with
  | 0, _ => rfl
  | j + 1, hj =>
   refine Lib.keeps_pos ?_
   have e1 : (xs.toArray)[j + 1]! = xs[j + 1] := by simp [hj]
   have e2 : (xs.toArray)[j]! = xs[j]'(by omega) := by
    have hj' : j < xs.length := by omega
    simp [hj']
   rw [Nat.add_sub_cancel, e1, e2]
   exact fun e => tb_ne ((rise_iff xs).1 h j hj) e.symm
 unfold Lib.compact Lib.compactUpTo
 rw [List.filter_eq_self.2 (fun j hj => hk j (List.mem_range.1 hj))]
 apply List.ext_getElem
 ·simp
 ·intro i h1 h2
  simp [h2]
set_option maxRecDepth 100000 in
theorem values_at (w : World) (A : Option Addr) (n c : Nat) : Calls Tryz.prog 192 #[.slice A n c] w fun e w' => e = .returned (.func (.func 212) #[] #[.pointer (some ⟨w.heap.size, 0, none⟩)]) ∧ w' = w.alloc (.cells #[.slice A n c] 41) := by
 go_enter Tryz.func192, Tryz.ntmps192
 go_wp2
 go_ret
 exact ⟨rfl, rfl⟩
set_option maxRecDepth 100000 in
set_option maxHeartbeats 4000000 in
theorem sortedQ_at {w : World} {A : Option Addr} {n c : Nat} {xs : List Str} (h : SlR Rep.txt w (· < w.heap.size) A n c xs) (hn : n ≤ 1000000) (hr : riseB xs = true) :
  Calls Tryz.prog 155 #[.slice A n c] w fun e w' => ∃ v, e = .returned v ∧ OwnT w' w.heap.size v xs ∧ Ext w w' := by
 have HE0 := hid (ext_alloc w (.cells #[.slice A n c] 41))
 have hc0 : (w.alloc (.cells #[.slice A n c] 41)).cell? ⟨w.heap.size, 0, none⟩ = some (.slice A n c) := by rw [cell_of_row _ _ _ _ _ _ (heap_alloc_last w _)]; rfl
 have hs := sortedValues_txt (h.grow HE0.out) hn w.heap.size (by simp) hc0
 rw [rise_sorted hr] at hs
 have Hr := hid (rise_compact_self hr)
 clear h hc0 hr
 go_enter Tryz.func155, Tryz.ntmps155
 go_wp2_with fail
 refine (values_at w A n c).mono ?_
 rintro e w' ⟨rfl, rfl⟩
 go_wp2_with fail
 refine hs.mono ?_
 rintro e w2 ⟨v, rfl, ho, hE⟩
 have HO := hid ho
 have Hsz := hid hE.size
 have HE2 := hid (Ext.trans' HE0.out hE)
 have Hz0 := hid HE0.out.size
 clear hs ho hE
 go_wp2_with fail
 refine (compact_txt HO.out Hsz.out).mono ?_
 rintro e w3 ⟨v2, rfl, ho2, hB⟩
 rw [Hr.out] at ho2
 have HO2 := hid (show OwnT w3 w.heap.size v2 xs from ownsRow_base ho2 Hz0.out)
 have HE3 := hid (HE2.out.trans (hB.mono Hz0.out))
 clear ho2 hB
 go_wp2
 go_ret
 exact ⟨_, rfl, HO2.out, HE3.out⟩
def OwnX {α : Type} (R : Rep α) (e : TypeId) (n1 : Nat) (w : World) (base : Nat) (v : Value) (xs : List α) : Prop :=
 ∃ cs, w.ownsRow base e R.size v xs.length cs ∧ Rows R w (fun k => n1 ≤ k ∧ k < w.heap.size ∧ v.ownBlock ≠ some k) xs cs
section
variable {α : Type} {R : Rep α} {e : TypeId} {n1 : Nat} {w w' : World} {base : Nat} {v : Value} {xs : List α}
theorem OwnX.ext (h : OwnX R e n1 w base v xs) (hE : Ext w w') : OwnX R e n1 w' base v xs := by
 obtain ⟨cs, ho, hr⟩ := h
 refine ⟨cs, World.ownsRow.kept (row := none) ho ⟨hE.os, hE.tape, hE.output, hE.size, fun i hi _ => hE.block i hi⟩ (by cases v.ownBlock <;> simp), ?_⟩
 exact (hr.ext fun k hk => hE.block k hk.2.1).mono fun k hk => ⟨hk.1, Nat.lt_of_lt_of_le hk.2.1 hE.size, hk.2.2⟩
theorem OwnX.nil (w : World) (base : Nat) : OwnX R e n1 w base (.slice none 0 0) [] := ⟨[], World.ownsRow_nil w base e R.size, rfl⟩
theorem OwnX.lt (h : OwnX R e n1 w base v xs) (k : Nat) (hk : v.ownBlock = some k) : base ≤ k ∧ k < w.heap.size := by
 obtain ⟨cs, ho, -⟩ := h
 exact World.ownsRow.lt ho k hk
theorem OwnX.not_box {ob : Nat} {t : TypeId} {u : Value} (h : OwnX R e n1 w base v xs) (hb : Boxed w ob t u) (hte : t ≠ e) : v.ownBlock ≠ some ob := by
 obtain ⟨cs, ho, -⟩ := h
 exact fun e => hb.not_row hte ho e.symm
theorem OwnX.set {ob : Nat} (x : Value) (h : OwnX R e n1 w base v xs) (hob : ob < n1) (hne : v.ownBlock ≠ some ob) : OwnX R e n1 (w.setCell ⟨ob, 0, none⟩ x) base v xs := by
 obtain ⟨cs, ho, hr⟩ := h
 refine ⟨cs, ho.kept (grownBy_setCell' w ob x) (.inr hne), ?_⟩
 have hs : (w.setCell ⟨ob, 0, none⟩ x).heap.size = w.heap.size := by simp
 refine (hr.ext fun k hk => heap_setCell_other w ⟨ob, 0, none⟩ k x (fun e => ?_)).mono fun k hk => ⟨hk.1, by rw [hs]; exact hk.2.1, hk.2.2⟩
 have : k = ob := e
 omega
theorem OwnX.read (h : OwnX R e n1 w base v xs) (hn : base ≤ n1) : ∃ A c, v = .slice A xs.length c ∧ SlR R w (fun k => base ≤ k ∧ k < w.heap.size) A xs.length c xs := by
 obtain ⟨cs, ho, hr⟩ := h
 obtain ⟨A, c, e, hc, hv⟩ := RV.own ho
 have hlt := World.ownsRow.lt ho
 have hm : c ≤ 9223372036854775807 := by
  rcases ho.2 with ⟨h1, h2⟩ | ⟨g, cap, cur, h1, _, _, _, hm, _⟩
  ·rw [h1] at e; simp only [Value.slice.injEq] at e; omega
  ·rw [h1] at e; simp only [Value.slice.injEq] at e; simp only [maxLen] at hm; omega
 refine ⟨A, c, e, rfl, hc, hm, cs, hr.mono (fun k hk => ⟨Nat.le_trans hn hk.1, hk.2.1⟩), RK.of_rv hv fun b o eA h => ⟨?_, h⟩⟩
 have : v.ownBlock = some b := by
  rw [e, eA]; rfl
 exact (hlt b this).1
theorem run_appX {P : Program} {t : TypeId} {z : Value} {bytes : Nat} (S : SlInfo P t e z R.size bytes) (ty : TypeId) (hown : OwnX R e n1 w base v xs) (hbase : base ≤ w.heap.size)
  (a : Addr) (m c : Nat) (news : List α) (hm : m = news.length) (hr : ∃ cs, Rows R w (fun k => n1 ≤ k ∧ k < w.heap.size ∧ v.ownBlock ≠ some k) news cs ∧ RV w (some a) cs) (hmax : xs.length + m ≤ 1000000) (hbytes : bytes ≤ 1000) :
  ∃ v' w', (Builtin.append_ #[t, t] ty #[v, .slice (some a) m c]).run P w = .ok v' w' ∧ OwnX R e n1 w' base v' (xs ++ news) ∧ w.grownBy w' v.ownBlock ∧ (v'.ownBlock = v.ownBlock ∨ v'.ownBlock = some w.heap.size) := by
 subst hm
 obtain ⟨i, hi, hii⟩ := Option.map_eq_some_iff.1 S.hi
 simp only [Prod.mk.injEq] at hii
 obtain ⟨hz0, hz1, hz2⟩ := hii
 obtain ⟨cs, hrow, hrd⟩ := hr
 obtain ⟨ds, hds, hdrow⟩ := hown
 have hb : (xs.length + news.length) * bytes ≤ 140737488355328 := by
  have := Nat.mul_le_mul hmax hbytes
  omega
 obtain ⟨v', w', hrun, ho, hg, -, hat⟩ := run_append_own_at (P := P) (w := w) base t ty e i z R.size bytes S.ht hi hz0 hz1 hz2 S.hz S.hs v xs.length ds hds a news.length c cs hrow.len (by
  rcases hrd with rfl | ⟨b, o', e', h⟩
  ·intro j u hu; simp at hu
  ·simp only [Option.some.injEq] at e'
   subst e'
   intro j u hu
   have := h j u hu
   rwa [Addr.add_lit]) hrow.one (by simp only [maxLen]; omega) hb hbase
 refine ⟨v', w', hrun, ⟨ds ++ cs, by rw [List.length_append]; exact ho, ?_⟩, hg, hat⟩
 have hall := hdrow.append hrow
 refine (hall.ext fun k hk => hg.block k hk.2.1 (fun e => hk.2.2 e.symm)).mono fun k hk => ⟨hk.1, Nat.lt_of_lt_of_le hk.2.1 hg.size, ?_⟩
 rcases hat with e | e
 ·rw [e]; exact hk.2.2
 ·rw [e]; intro h'; have := hk.2.1; simp at h'; omega
end
theorem clinfo : SlInfo Tryz.prog 68 67 (.agg #[.slice none 0 0, .slice none 0 0]) RCl.size 48 := ⟨Tryz.underlying68, by kernel_rfl, rfl, by decide⟩
def Yg (n0 : Nat) (W : World) (k : Nat) : Prop := n0 ≤ k ∧ k < W.heap.size
structure Keeps (n0 : Nat) (W W' : World) : Prop where
 size : W.heap.size ≤ W'.heap.size
 same : ∀ j, n0 ≤ j → j < W.heap.size → W'.heap[j]? = W.heap[j]?
theorem Keeps.of_ext {n0 : Nat} {W W' : World} (h : Ext W W') : Keeps n0 W W' := ⟨h.size, fun j _ hj => h.block j hj⟩
structure KeepsBut (ob : Nat) (W W' : World) : Prop where
 size : W.heap.size ≤ W'.heap.size
 same : ∀ j, j < W.heap.size → j ≠ ob → W'.heap[j]? = W.heap[j]?
theorem KeepsBut.keeps {ob n0 : Nat} {W W' : World} (h : KeepsBut ob W W') (hn : ob < n0) : Keeps n0 W W' := ⟨h.size, fun j hj hlt => h.same j hlt (by omega)⟩
theorem yg_keep {α : Type} {R : Rep α} {n0 : Nat} {W W' : World} {A : Option Addr} {n c : Nat} {xs : List α} (h : SlR R W (Yg n0 W) A n c xs) (hk : Keeps n0 W W') : SlR R W' (Yg n0 W') A n c xs :=
 (h.ext fun k hk' => hk.same k hk'.1 hk'.2).mono fun k hk' => ⟨hk'.1, Nat.lt_of_lt_of_le hk'.2 hk.size⟩
def pT (n0 : Nat) (xs : List Str) : SPred := ⟨fun v W => ∃ A c, v = .slice A xs.length c ∧ SlR Rep.txt W (Yg n0 W) A xs.length c xs, fun _ _ _ ⟨A, c, e, h⟩ hE => ⟨A, c, e, yg_keep h (.of_ext hE)⟩⟩
def pC (n0 : Nat) (c : ClV) : SPred := ⟨fun v W => ∃ A a B b, v = .agg #[.slice A c.tags.length a, .slice B c.types.length b] ∧ SlR Rep.txt W (Yg n0 W) A c.tags.length a c.tags ∧ SlR Rep.txt W (Yg n0 W) B c.types.length b c.types,
 fun _ _ _ ⟨A, a, B, b, e, h1, h2⟩ hE => ⟨A, a, B, b, e, yg_keep h1 (.of_ext hE), yg_keep h2 (.of_ext hE)⟩⟩
theorem cls_keep {n0 : Nat} {W W' : World} {ad : Nat} {cl : ClV} (h : ∃ cs, Rows RCl W (Yg n0 W) [cl] cs ∧ RV W (some ⟨ad, 0, none⟩) cs ∧ n0 ≤ ad) (hk : Keeps n0 W W') : ∃ cs, Rows RCl W' (Yg n0 W') [cl] cs ∧ RV W' (some ⟨ad, 0, none⟩) cs ∧ n0 ≤ ad := by
 obtain ⟨cs, h1, h2, h3⟩ := h
 refine ⟨cs, (h1.ext fun k hk' => hk.same k hk'.1 hk'.2).mono fun k hk' => ⟨hk'.1, Nat.lt_of_lt_of_le hk'.2 hk.size⟩, ?_, h3⟩
 rcases h2 with h2 | ⟨b, o, e, h2⟩
 ·exact .inl h2
 ·simp only [Option.some.injEq, Addr.mk.injEq, and_true] at e
  obtain ⟨rfl, rfl⟩ := e
  refine .inr ⟨ad, 0, rfl, fun j v hv => ?_⟩
  have := h2 j v hv
  rw [← this]
  exact World.cell?_of_block (hk.same ad h3 (World.block_lt_of_cell? W ⟨ad, 0 + j, none⟩ this))
def pS (n0 : Nat) (cl : ClV) : SPred := ⟨fun v W => ∃ ad, v = .slice (some ⟨ad, 0, none⟩) 1 1 ∧ ∃ cs, Rows RCl W (Yg n0 W) [cl] cs ∧ RV W (some ⟨ad, 0, none⟩) cs ∧ n0 ≤ ad,
 fun _ _ _ ⟨ad, e, h⟩ hE => ⟨ad, e, cls_keep h (.of_ext hE)⟩⟩
def pO (base n1 ob : Nat) (xs : List ClV) : SPred := ⟨fun v W => OwnX RCl 67 n1 W base v xs ∧ v.ownBlock ≠ some ob, fun _ _ _ h hE => ⟨h.1.ext hE, h.2⟩⟩
theorem pO_but {base n1 ob : Nat} {xs : List ClV} {v : Value} {W W' : World} (hob : ob < n1) (h : (pO base n1 ob xs).p v W) (hk : KeepsBut ob W W') : (pO base n1 ob xs).p v W' := by
 obtain ⟨⟨cs, ho, hr⟩, hne⟩ := h
 refine ⟨⟨cs, ?_, (hr.ext fun k hk' => hk.same k hk'.2.1 (by omega)).mono fun k hk' => ⟨hk'.1, Nat.lt_of_lt_of_le hk'.2.1 hk.size, hk'.2.2⟩⟩, hne⟩
 refine ⟨ho.1, ?_⟩
 rcases ho.2 with h | ⟨g, cap, cur, rfl, hb, hg, r⟩
 ·exact .inl h
 ·refine .inr ⟨g, cap, cur, rfl, hb, ?_, r⟩
  rw [hk.same g (Array.getElem?_eq_some_iff.1 hg).1 (fun e => hne (by rw [e]; rfl))]
  exact hg
theorem norm_mem {q : List ClV} (h : mayQ q = 0) {c : ClV} (hc : c ∈ q) : riseB c.tags = true ∧ riseB c.types = true ∧ c.tags.length ≤ 1000000 ∧ c.types.length ≤ 1000000 := by
 unfold mayQ at h
 split at h
 ·cases h
 rename_i h1
 split at h
 ·cases h
 split at h
 ·cases h
 rename_i h3
 have h1' : q.any bigC = false := by
  cases hb : q.any bigC
  ·rfl
  ·rw [hb, Bool.or_true] at h1; exact absurd rfl h1
 obtain ⟨l1, l2⟩ := big_lens h1' hc
 have h3' : riseC c = false := by
  cases hb : riseC c
  ·rfl
  ·exact absurd (List.any_eq_true.2 ⟨c, hc, hb⟩) h3
 unfold riseC at h3'
 simp only [Bool.or_eq_false_iff, Bool.not_eq_false'] at h3'
 exact ⟨h3'.1, h3'.2, l1, l2⟩
theorem norm_len {q : List ClV} (h : mayQ q = 0) : q.length ≤ 4 := by
 unfold mayQ at h
 split at h
 ·cases h
 rename_i h1
 simp only [Bool.or_eq_true, decide_eq_true_eq, not_or] at h1
 omega
end Go.Proofs.YtakebdeldndaaaaGreatDoor
/- Norm of a query that may be. -/
namespace Go.Proofs.YtakebdeldndaaaaGreatDoor
open Go Go.RowKit
set_option linter.unusedSimpArgs false
set_option linter.unusedVariables false
theorem step_appN {P : Program} {o : Oper} {a : Act} {w w' : World} {K : Act → World → Prop} {Q : Exit → Act → World → Prop} (s x : Operand) {t u : TypeId} (ho : o.op = .call { callee := .builtin .append, args := #[s, x], argTypes := #[t, u] }) {vs vx v' : Value}
  (hs : a.eval s = vs) (hx : a.eval x = vx) (hrun : (Builtin.append_ #[t, u] o.type #[vs, vx]).run P w = .ok v' w') (h : K (a.put o.dst v') w') : o.wp P a w K Q := by
 unfold Oper.wp
 simp [execOp, ho, resolve, invoke, builtin, hs, hx, hrun, Result.andThen]
 exact h
theorem boxed_later {W W' : World} {B : Nat} {t : TypeId} {v : Value} (h : Boxed W B t v) (hE : Ext W W') : Boxed W' B t v := (hE.block B h.lt).trans h
theorem OwnT.yg {w : World} {base n0 : Nat} {v : Value} {xs : List Str} (h : OwnT w base v xs) (hs : ∀ s ∈ xs, Short s) (hb : n0 ≤ base) : ∃ A c, v = .slice A xs.length c ∧ SlR Rep.txt w (Yg n0 w) A xs.length c xs := by
 obtain ⟨A, c, e, h1, h2, h3, cs, hr, hv⟩ := h.read hs
 have hlt := World.ownsRow.lt h
 refine ⟨A, c, e, h1, h2, h3, xs.map strV, rows_txt hs, ?_⟩
 obtain ⟨A', c', e', -, hv'⟩ := RV.own h
 rw [e] at e'
 simp only [Value.slice.injEq] at e'
 obtain ⟨rfl, -, rfl⟩ := e'
 refine RK.of_rv hv' fun b o eA hbl => ⟨?_, hbl⟩
 have : v.ownBlock = some b := by rw [e, eA]; rfl
 have := (hlt b this).1
 omega
structure NormB (w wS : World) (cb rb : Nat) (T : Option Addr) (tl ta : Nat) (U : Option Addr) (ul ua : Nat) (W : World) : Prop where
 below : Ext w W
 size : wS.heap.size ≤ W.heap.size
 box : W.heap[cb]? = some (.cells #[.slice T tl ta, .slice U ul ua] 67)
 res : Boxed W rb 70 (.slice none 0 0)
section
variable {w wS W W' : World} {cb rb ob : Nat} {T U : Option Addr} {tl ta ul ua : Nat}
theorem NormB.c0 (h : NormB w wS cb rb T tl ta U ul ua W) : W.cell? ⟨cb, 0, none⟩ = some (.slice T tl ta) := by rw [cell_of_row _ _ _ _ _ _ h.box]; rfl
theorem NormB.c1 (h : NormB w wS cb rb T tl ta U ul ua W) : W.cell? ⟨cb, 1, none⟩ = some (.slice U ul ua) := by rw [cell_of_row _ _ _ _ _ _ h.box]; rfl
theorem NormB.later (h : NormB w wS cb rb T tl ta U ul ua W) (hE : Ext W W') : NormB w wS cb rb T tl ta U ul ua W' :=
 ⟨Ext.trans' h.below hE, Nat.le_trans h.size hE.size, (hE.block cb (Array.getElem?_eq_some_iff.1 h.box).1).trans h.box, boxed_later h.res hE⟩
theorem NormB.app (h : NormB w wS cb rb T tl ta U ul ua W) {row : Option Nat} (hg : W.grownBy W' row) (h1 : ∀ k, row = some k → w.heap.size ≤ k) (h2 : row ≠ some cb) (h3 : row ≠ some rb) : NormB w wS cb rb T tl ta U ul ua W' :=
 ⟨h.below.grown hg h.below.size h1, Nat.le_trans h.size hg.size, (hg.block cb (Array.getElem?_eq_some_iff.1 h.box).1 (fun e => h2 e.symm)).trans h.box, (hg.block rb h.res.lt (fun e => h3 e.symm)).trans h.res⟩
theorem NormB.set (h : NormB w wS cb rb T tl ta U ul ua W) (x : Value) (h1 : w.heap.size ≤ ob) (h2 : cb ≠ ob) (h3 : rb ≠ ob) : NormB w wS cb rb T tl ta U ul ua (W.setCell ⟨ob, 0, none⟩ x) :=
 h.app (grownBy_setCell' W ob x) (fun k e => by cases e; exact h1) (fun e => h2 (by cases e; rfl)) (fun e => h3 (by cases e; rfl))
end
set_option maxRecDepth 100000 in
set_option maxHeartbeats 4000000 in
theorem norm_at {w : World} {A : Option Addr} {n c : Nat} {q : List ClV} (h : SlR RCl w (· < w.heap.size) A n c q) (hm : mayQ q = 0) :
  Calls Tryz.prog 123 #[.agg #[.slice A n c]] w fun e w' => ∃ A' c', e = .returned (.agg #[.slice A' n c']) ∧ SlR RCl w' (fun k => w.heap.size ≤ k ∧ k < w'.heap.size) A' n c' q ∧ Ext w w' := by
 have Hn := hid h.1
 have hnc := h.2.1
 have hcm := h.2.2.1
 have H := hid h
 have Hm := hid hm
 have hn4 : n ≤ 4 := by rw [Hn.out]; exact norm_len hm
 clear h hm
 have HE1 := hid (ext_alloc w (.cells #[.slice A n c] 70))
 have hq0 := Boxed.new w 70 (.slice A n c)
 have hs1 : (w.alloc (.cells #[.slice A n c] 70)).heap.size = w.heap.size + 1 := by simp
 have HE2 := hid (ext_alloc (w.alloc (.cells #[.slice A n c] 70)) (.cells #[.slice none 0 0] 70))
 have hr0 := Boxed.new (w.alloc (.cells #[.slice A n c] 70)) 70 (.slice none 0 0)
 have hs2 : ((w.alloc (.cells #[.slice A n c] 70)).alloc (.cells #[.slice none 0 0] 70)).heap.size = w.heap.size + 1 + 1 := by simp
 have HE3 := hid (ext_alloc ((w.alloc (.cells #[.slice A n c] 70)).alloc (.cells #[.slice none 0 0] 70)) (.cells #[.slice none 0 0] 70))
 have ho0 := Boxed.new ((w.alloc (.cells #[.slice A n c] 70)).alloc (.cells #[.slice none 0 0] 70)) 70 (.slice none 0 0)
 rw [hs1] at hr0
 rw [hs2] at ho0
 have hq3 := boxed_later (boxed_later hq0 HE2.out) HE3.out
 have hr3 := boxed_later hr0 HE3.out
 have hs3 : (((w.alloc (.cells #[.slice A n c] 70)).alloc (.cells #[.slice none 0 0] 70)).alloc (.cells #[.slice none 0 0] 70)).heap.size = w.heap.size + 3 := by simp
 have b0 := hq3.cell
 have HEE := hid (Ext.trans' (Ext.trans' HE1.out HE2.out) HE3.out)
 clear hq0 hr0 hs1 hs2
 go_enter Tryz.func123, Tryz.ntmps123
 go_wp2_with fail
 generalize ((w.alloc (.cells #[.slice A n c] 70)).alloc (.cells #[.slice none 0 0] 70)).alloc (.cells #[.slice none 0 0] 70) = w3 at ho0 hr3 hq3 hs3 b0 HEE HE3 ⊢
 have Hr3 := hid hr3; have Ho0 := hid ho0; have Hs3 := hid hs3
 clear b0 hq3 hr3 ho0 hs3 HE1 HE2 HE3
 obtain ⟨ob, hob⟩ : ∃ ob, ob = w.heap.size + 1 + 1 := ⟨_, rfl⟩
 obtain ⟨rb, hrb⟩ : ∃ rb, rb = w.heap.size + 1 := ⟨_, rfl⟩
 rw [← hob] at Ho0 ⊢
 rw [← hrb] at Hr3 ⊢
 have Hob := hid hob; have Hrb := hid hrb
 clear hob hrb
 go_loopw [9] (fun i wr => ∃ k : Nat, k ≤ n ∧ i = .int .i64 (k : Int) ∧ Hid (∃ v, Boxed wr ob 70 v ∧ OwnX RCl 67 (w.heap.size + 3) wr w.heap.size v (q.take k)) ∧ Hid (Boxed wr rb 70 (.slice none 0 0)) ∧ Hid (Ext w wr) ∧ Hid (w.heap.size + 3 ≤ wr.heap.size)) (fun i _ => n - (intOf i).toNat)
 case atStart => exact ⟨0, by omega, rfl, ⟨_, Ho0.out, OwnX.nil _ _⟩, Hr3, HEE, by rw [Hs3.out]; exact Nat.le_refl _⟩
 case round =>
  obtain ⟨k, hk, rfl, HO, HR, HE, HZ⟩ := hrel
  by_cases hlt : k < n
  ·have hkx : k < q.length := by have := Hn.out; omega
   have hlt' : (k : Int) < (n : Int) := by omega
   have hk00 : ¬ ((k : Int) < 0) := by omega
   have hk0 : (0 : Int) ≤ (k : Int) := by omega
   obtain ⟨b, o, T, ta, U, ua, rfl, hbw, f0, f1, hT, hU⟩ := cl_at H.out k hkx
   have f0' := cell_later HE.out f0
   have f1' := cell_later HE.out f1
   obtain ⟨r1, r2, l1, l2⟩ := norm_mem Hm.out (List.getElem_mem hkx)
   have Ht := hid (show q.take (k + 1) = q.take k ++ [q[k]] from List.take_succ_eq_append_getElem hkx)
   generalize q[k] = cl at f0' f1' hT hU r1 r2 l1 l2 Ht
   have HT := hid hT; have HU := hid hU
   have R1 := hid r1; have R2 := hid r2; have L1 := hid l1; have L2 := hid l2
   clear f0 f1 hT hU r1 r2 l1 l2
   generalize htl : cl.tags.length = tl at f0' HT L1
   generalize hul : cl.types.length = ul at f1' HU L2
   have Htl := hid htl; have Hul := hid hul
   clear htl hul
   obtain ⟨v0, hbx, hox⟩ := HO.out
   have HBX := hid hbx; have HOX := hid hox
   clear hbx hox HO
   have hpre : (q.take k).length ≤ 4 := by rw [List.length_take]; omega
   generalize q.take k = pre at HOX Ht hpre
   have hown : ∀ j, v0.ownBlock = some j → w.heap.size ≤ j ∧ j < wr.heap.size := fun j hj => HOX.out.lt j hj
   have Hown := hid hown
   have Hnob := hid (HOX.out.not_box HBX.out (by decide))
   have Hnrb := hid (HOX.out.not_box HR.out (by decide))
   have HE5 := hid (ext_alloc wr (.cells #[.slice T tl ta, .slice U ul ua] 67))
   have Hcx := hid (show (wr.alloc (.cells #[.slice T tl ta, .slice U ul ua] 67)).heap[wr.heap.size]? = some (.cells #[.slice T tl ta, .slice U ul ua] 67) from heap_alloc_last _ _)
   have Hs5 := hid (show (wr.alloc (.cells #[.slice T tl ta, .slice U ul ua] 67)).heap.size = wr.heap.size + 1 by simp)
   have Hpre := hid hpre
   clear hown hpre
   go_wp2_with fail
   clear f0' f1'
   generalize hW5 : wr.alloc (.cells #[.slice T tl ta, .slice U ul ua] 67) = W5 at HE5 Hcx Hs5 ⊢
   clear hW5
   obtain ⟨cb, hcb⟩ : ∃ cb, cb = wr.heap.size := ⟨_, rfl⟩
   rw [← hcb] at Hcx ⊢
   have Hcb := hid hcb
   obtain ⟨n0, hn0⟩ : ∃ n0, n0 = W5.heap.size := ⟨_, rfl⟩
   have Hn0 := hid hn0
   have hne : cb ≠ ob ∧ rb ≠ ob ∧ ob < n0 ∧ ob < w.heap.size + 3 ∧ w.heap.size ≤ ob ∧ cb < n0 := by
    have := HZ.out; have := Hob.out; have := Hrb.out; have := Hs5.out; omega
   have Hne := hid hne
   clear hcb hn0 hne
   apply wp_drawn_pg 10 12 (KeepsBut ob) (Keeps n0) (NormB w W5 cb rb T tl ta U ul ua) (fun W => Boxed W ob 70 v0 ∧ OwnX RCl 67 (w.heap.size + 3) W w.heap.size v0 pre) (fun W => Boxed W ob 70 v0) (fun W => ∃ v', Boxed W ob 70 v' ∧ OwnX RCl 67 (w.heap.size + 3) W w.heap.size v' (pre ++ [cl])) [isV _, isV _, isV _, isV _, pT n0 cl.tags, isV _, isV _, pT n0 cl.types, pC n0 cl, pS n0 cl, pO w.heap.size (w.heap.size + 3) ob (pre ++ [cl]), isV _, anyV] (by kernel_rfl)
   ·kernel_rfl
   ·kernel_rfl
   ·intro W hE
    exact ⟨⟨Ext.trans' (Ext.trans' HE.out HE5.out) hE, hE.size, (hE.block cb (Array.getElem?_eq_some_iff.1 Hcx.out).1).trans Hcx.out, boxed_later (boxed_later HR.out HE5.out) hE⟩, boxed_later (boxed_later HBX.out HE5.out) hE, (HOX.out.ext HE5.out).ext hE⟩
   ·intro W W' hE
    exact ⟨⟨hE.size, fun j hj _ => hE.block j hj⟩, fun h => h.later hE, fun h => ⟨boxed_later h.1 hE, h.2.ext hE⟩, fun h => boxed_later h hE, fun ⟨v, h1, h2⟩ => ⟨v, boxed_later h1 hE, h2.ext hE⟩⟩
   ·refine ⟨?nms0, ?nms1, ?nms2, ?nms3, ?nms4, ?nms5, ?nms6, ?nms7, ?nms8, ?nms9, ?nms10, ?nms11, ?nms12, trivial⟩
    case nms0 =>
     refine @stepPg_quiet _ _ _ _ _ _ _ _ _ _ _ _ _ _ (by decide) (by decide) ?_
     intro v W hE hd; simp only [Region.wanted, ↓reduceIte]; (try simp [deps, waitsOn, Region.binds, knowing, isV, ownsV, anyV] at hd); simp only [putAll, List.take_succ_cons, List.take_zero, List.drop_succ_cons, List.drop_zero, Act.put, List.setIfInBounds_toArray, List.set_cons_zero, List.set_cons_succ, Nat.zero_add, Nat.reduceAdd]; go_simp; exact ⟨Below.refl _ _, rfl⟩
    case nms1 =>
     refine @stepPg_early _ _ _ _ _ _ _ _ _ _ _ _ _ _ (by decide) (by decide) (by kernel_rfl) ?_
     intro v W hE hd; simp only [Region.wanted, ↓reduceIte]; (try simp [deps, waitsOn, Region.binds, knowing, isV, ownsV, anyV] at hd); simp only [putAll, List.take_succ_cons, List.take_zero, List.drop_succ_cons, List.drop_zero, Act.put, List.setIfInBounds_toArray, List.set_cons_zero, List.set_cons_succ, Nat.zero_add, Nat.reduceAdd]
     have e1 := hE.2.1.cell
     go_simp
     exact ⟨Below.refl _ _, rfl⟩
    case nms2 =>
     refine @stepPg_quiet _ _ _ _ _ _ _ _ _ _ _ _ _ _ (by decide) (by decide) ?_
     intro v W hE hd; simp only [Region.wanted, ↓reduceIte]; (try simp [deps, waitsOn, Region.binds, knowing, isV, ownsV, anyV] at hd); simp only [putAll, List.take_succ_cons, List.take_zero, List.drop_succ_cons, List.drop_zero, Act.put, List.setIfInBounds_toArray, List.set_cons_zero, List.set_cons_succ, Nat.zero_add, Nat.reduceAdd]; go_simp; exact ⟨Below.refl _ _, rfl⟩
    case nms3 =>
     refine @stepPg_quiet _ _ _ _ _ _ _ _ _ _ _ _ _ _ (by decide) (by decide) ?_
     intro v W hE hd; simp only [Region.wanted, ↓reduceIte]; (try simp [deps, waitsOn, Region.binds, knowing, isV, ownsV, anyV] at hd); simp only [putAll, List.take_succ_cons, List.take_zero, List.drop_succ_cons, List.drop_zero, Act.put, List.setIfInBounds_toArray, List.set_cons_zero, List.set_cons_succ, Nat.zero_add, Nat.reduceAdd]
     have e1 := hE.c0
     go_simp
     exact ⟨Below.refl _ _, rfl⟩
    case nms4 =>
     refine @stepPg_quiet _ _ _ _ _ _ _ _ _ _ _ _ _ _ (by decide) (by decide) ?_
     intro v W hE hd; simp only [Region.wanted, ↓reduceIte]; (try simp [deps, waitsOn, Region.binds, knowing, isV, ownsV, anyV] at hd); simp only [putAll, List.take_succ_cons, List.take_zero, List.drop_succ_cons, List.drop_zero, Act.put, List.setIfInBounds_toArray, List.set_cons_zero, List.set_cons_succ, Nat.zero_add, Nat.reduceAdd]
     go_simp
     refine (sortedQ_at (HT.out.grow hE.below) L1.out R1.out).mono ?_
     rintro z w' ⟨v2, rfl, ho, hE2⟩
     have hy := ho.yg (n0 := n0) HT.out.short (by rw [Hn0.out]; exact hE.size)
     have HY := hid hy; have HE2 := hid hE2
     clear hy hE2 ho
     go_simp
     exact ⟨HE2.out, HY.out⟩
    case nms5 =>
     refine @stepPg_quiet _ _ _ _ _ _ _ _ _ _ _ _ _ _ (by decide) (by decide) ?_
     intro v W hE hd; simp only [Region.wanted, ↓reduceIte]; (try simp [deps, waitsOn, Region.binds, knowing, isV, ownsV, anyV] at hd); simp only [putAll, List.take_succ_cons, List.take_zero, List.drop_succ_cons, List.drop_zero, Act.put, List.setIfInBounds_toArray, List.set_cons_zero, List.set_cons_succ, Nat.zero_add, Nat.reduceAdd]; go_simp; exact ⟨Below.refl _ _, rfl⟩
    case nms6 =>
     refine @stepPg_quiet _ _ _ _ _ _ _ _ _ _ _ _ _ _ (by decide) (by decide) ?_
     intro v W hE hd; simp only [Region.wanted, ↓reduceIte]; (try simp [deps, waitsOn, Region.binds, knowing, isV, ownsV, anyV] at hd); simp only [putAll, List.take_succ_cons, List.take_zero, List.drop_succ_cons, List.drop_zero, Act.put, List.setIfInBounds_toArray, List.set_cons_zero, List.set_cons_succ, Nat.zero_add, Nat.reduceAdd]
     have e1 := hE.c1
     go_simp
     exact ⟨Below.refl _ _, rfl⟩
    case nms7 =>
     refine @stepPg_quiet _ _ _ _ _ _ _ _ _ _ _ _ _ _ (by decide) (by decide) ?_
     intro v W hE hd; simp only [Region.wanted, ↓reduceIte]; (try simp [deps, waitsOn, Region.binds, knowing, isV, ownsV, anyV] at hd); simp only [putAll, List.take_succ_cons, List.take_zero, List.drop_succ_cons, List.drop_zero, Act.put, List.setIfInBounds_toArray, List.set_cons_zero, List.set_cons_succ, Nat.zero_add, Nat.reduceAdd]
     go_simp
     refine (sortedQ_at (HU.out.grow hE.below) L2.out R2.out).mono ?_
     rintro z w' ⟨v2, rfl, ho, hE2⟩
     have hy := ho.yg (n0 := n0) HU.out.short (by rw [Hn0.out]; exact hE.size)
     have HY := hid hy; have HE2 := hid hE2
     clear hy hE2 ho
     go_simp
     exact ⟨HE2.out, HY.out⟩
    case nms8 =>
     refine @stepPg_quiet _ _ _ _ _ _ _ _ _ _ _ _ _ _ (by decide) (by decide) ?_
     intro v W hE hd; simp only [Region.wanted, ↓reduceIte]; (try simp [deps, waitsOn, Region.binds, knowing, isV, ownsV, anyV] at hd); simp only [putAll, List.take_succ_cons, List.take_zero, List.drop_succ_cons, List.drop_zero, Act.put, List.setIfInBounds_toArray, List.set_cons_zero, List.set_cons_succ, Nat.zero_add, Nat.reduceAdd]
     obtain ⟨⟨A4, c4, e4, h4⟩, ⟨A7, c7, e7, h7⟩⟩ := hd
     have H4 := hid h4; have H7 := hid h7
     clear h4 h7
     rw [e4, e7]
     go_simp
     exact ⟨Below.refl _ _, A4, c4, A7, c7, rfl, H4.out, H7.out⟩
    case nms9 =>
     refine @stepPg_quiet _ _ _ _ _ _ _ _ _ _ _ _ _ _ (by decide) (by decide) ?_
     intro v W hE hd; simp only [Region.wanted, ↓reduceIte]; (try simp [deps, waitsOn, Region.binds, knowing, isV, ownsV, anyV] at hd); simp only [putAll, List.take_succ_cons, List.take_zero, List.drop_succ_cons, List.drop_zero, Act.put, List.setIfInBounds_toArray, List.set_cons_zero, List.set_cons_succ, Nat.zero_add, Nat.reduceAdd]
     obtain ⟨A4, c4, A7, c7, e8, h4, h7⟩ := hd
     have H4 := hid h4; have H7 := hid h7
     clear h4 h7
     rw [e8]
     go_simp
     refine ⟨ext_alloc _ _, W.heap.size, rfl, [.slice A4 cl.tags.length c4, .slice A7 cl.types.length c7], Rows.single (cl_mk (yg_keep H4.out (.of_ext (ext_alloc _ _))) (yg_keep H7.out (.of_ext (ext_alloc _ _)))), .inr ⟨W.heap.size, 0, rfl, fun j v hv => ?_⟩, by rw [Hn0.out]; exact hE.size⟩
     rw [Nat.zero_add]
     exact cells_new W _ _ j v hv
    case nms10 =>
     refine @stepPg_fst _ _ _ _ _ _ _ _ _ _ _ _ _ ?_
     intro v W hB hd; refine ⟨rfl, ?_⟩; (try simp [deps, waitsOn, Region.binds, knowing, isV, ownsV, anyV] at hd); simp only [putAll, List.take_succ_cons, List.take_zero, List.drop_succ_cons, List.drop_zero, Act.put, List.setIfInBounds_toArray, List.set_cons_zero, List.set_cons_succ, Nat.zero_add, Nat.reduceAdd]
     obtain ⟨hB, hI⟩ := hB
     obtain ⟨e1, ⟨ad, e9, cs, h9, hr9, had⟩, -⟩ := hd
     have hsz := hB.size
     obtain ⟨v', w', hrun, ho, hg, hat⟩ := run_appX clinfo _ hI.2 hB.below.size ⟨ad, 0, none⟩ 1 1 [cl] rfl ⟨cs, h9.mono fun j hj => ⟨by have := Hne.out; have := Hn0.out; have := hj.1; have := HZ.out; have := Hs5.out; omega, hj.2, fun e => by have := (Hown.out j e).2; have := hj.1; have := Hs5.out; have := Hn0.out; omega⟩, hr9⟩ (by have := Hpre.out; omega) (by omega)
     refine step_appN (.tmp 14) (.tmp 22) rfl e1 e9 hrun ?_
     refine ⟨_, rfl, ⟨⟨hB.app hg (fun j e => (Hown.out j e).1) (fun e => by have := (Hown.out cb e).2; have := Hcb.out; omega) Hnrb.out, (hg.block ob hI.1.lt (fun e => Hnob.out e.symm)).trans hI.1⟩, ⟨hg.size, fun j h1 h2 => hg.block j h2 (fun e => by have := (Hown.out j e.symm).2; have := Hs5.out; have := Hn0.out; omega)⟩⟩, ho, ?_⟩
     rcases hat with e | e
     ·rw [e]; exact Hnob.out
     ·rw [e]; intro e2; have := hI.1.lt; cases e2; omega
    case nms11 =>
     refine @stepPg_quiet _ _ _ _ _ _ _ _ _ _ _ _ _ _ (by decide) (by decide) ?_
     intro v W hE hd; simp only [Region.wanted, ↓reduceIte]; (try simp [deps, waitsOn, Region.binds, knowing, isV, ownsV, anyV] at hd); simp only [putAll, List.take_succ_cons, List.take_zero, List.drop_succ_cons, List.drop_zero, Act.put, List.setIfInBounds_toArray, List.set_cons_zero, List.set_cons_succ, Nat.zero_add, Nat.reduceAdd]; go_simp; exact ⟨Below.refl _ _, rfl⟩
    case nms12 =>
     refine @stepPg_snd _ _ _ _ _ _ _ _ _ _ _ _ _ (by decide) ?_
     intro v W hB hd; refine ⟨rfl, ?_⟩; (try simp [deps, waitsOn, Region.binds, knowing, isV, ownsV, anyV] at hd); simp only [putAll, List.take_succ_cons, List.take_zero, List.drop_succ_cons, List.drop_zero, Act.put, List.setIfInBounds_toArray, List.set_cons_zero, List.set_cons_succ, Nat.zero_add, Nat.reduceAdd]
     obtain ⟨hB, hI⟩ := hB
     obtain ⟨e11, ⟨h10, hne10⟩, -⟩ := hd
     obtain ⟨A10, c10, e10, -⟩ := h10.read (by omega)
     have g1 := hI.cell
     have g2 := hI.frozen
     have hset := h10.set (ob := ob) (.slice A10 (pre ++ [cl]).length c10) Hne.out.2.2.2.1 hne10
     rw [e10] at hset ⊢
     have HS := hid hset
     have HBs := hid (hB.set (ob := ob) (.slice A10 (pre ++ [cl]).length c10) Hne.out.2.2.2.2.1 Hne.out.1 Hne.out.2.1)
     have HI := hid (hI.set (.slice A10 (pre ++ [cl]).length c10))
     have HK := hid (show KeepsBut ob W (W.setCell ⟨ob, 0, none⟩ (.slice A10 (pre ++ [cl]).length c10)) from ⟨by simp, fun j _ hj => heap_setCell_other W ⟨ob, 0, none⟩ j _ (fun e => hj e)⟩)
     clear hset hB hI h10 hne10 e10
     generalize (pre ++ [cl]).length = pl at HS HBs HI HK ⊢
     go_simp
     exact ⟨⟨⟨HBs.out, _, HI.out, HS.out⟩, HK.out⟩, undef, trivial⟩
   ·intro i w1 w2 w3 hT h
    match i, h with
    | 0, h => exact h
    | 1, h => exact h
    | 2, h => exact h
    | 3, h => exact h
    | 4, h =>
     exact (fun ⟨A, c, e, h⟩ => ⟨A, c, e, yg_keep h (hT.keeps Hne.out.2.2.1)⟩ : _ → _) h
    | 5, h => exact h
    | 6, h => exact h
    | 7, h =>
     exact (fun ⟨A, c, e, h⟩ => ⟨A, c, e, yg_keep h (hT.keeps Hne.out.2.2.1)⟩ : _ → _) h
    | 8, h =>
     exact (fun ⟨A, a, B, b, e, h1, h2⟩ => ⟨A, a, B, b, e, yg_keep h1 (hT.keeps Hne.out.2.2.1), yg_keep h2 (hT.keeps Hne.out.2.2.1)⟩ : _ → _) h
    | 9, h =>
     exact (fun ⟨ad, e, h⟩ => ⟨ad, e, cls_keep h (hT.keeps Hne.out.2.2.1)⟩ : _ → _) h
    | 10, h =>
     exact pO_but Hne.out.2.2.2.1 h hT
    | 11, h => exact h
    | 12, h => exact h
    | _ + 13, h => exact h
   ·intro i w1 w2 w3 hip hT h
    match i, hip, h with
    | 0, hip, h => exact h
    | 1, hip, h => exact h
    | 2, hip, h => exact h
    | 3, hip, h => exact h
    | 4, hip, h =>
     exact (fun ⟨A, c, e, h⟩ => ⟨A, c, e, yg_keep h hT⟩ : _ → _) h
    | 5, hip, h => exact h
    | 6, hip, h => exact h
    | 7, hip, h =>
     exact (fun ⟨A, c, e, h⟩ => ⟨A, c, e, yg_keep h hT⟩ : _ → _) h
    | 8, hip, h =>
     exact (fun ⟨A, a, B, b, e, h1, h2⟩ => ⟨A, a, B, b, e, yg_keep h1 hT, yg_keep h2 hT⟩ : _ → _) h
    | 9, hip, h =>
     exact (fun ⟨ad, e, h⟩ => ⟨ad, e, cls_keep h hT⟩ : _ → _) h
    | 10, hip, h =>
     exact absurd rfl hip
    | 11, hip, h => exact h
    | 12, hip, h => exact h
    | _ + 13, hip, h => exact h
   ·rintro v W9 hB hI ⟨-, -, -, -, -, -, -, -, -, -, -, -, -, -⟩
    simp only [putAll, List.take_succ_cons, List.take_zero, List.drop_succ_cons, List.drop_zero, Act.put, List.setIfInBounds_toArray, List.set_cons_zero, List.set_cons_succ, Nat.zero_add, Nat.reduceAdd]
    obtain ⟨v', hb', ho'⟩ := hI
    have HBb := hid hb'; have HOo := hid ho'; have HBB := hid hB
    clear hb' ho' hB
    go_wp2_with fail
    go_roundw
    case rel => exact ⟨k + 1, by omega, by go_num, ⟨v', HBb.out, by rw [Ht.out]; exact HOo.out⟩, HBB.out.res, HBB.out.below, by show _ ≤ _; have := HBB.out.size; have := Hs5.out; have := HZ.out; omega⟩
    case measure => simp [intOf]; omega
  ·obtain rfl : k = n := by omega
   have hlt' : ¬ ((k : Int) < (k : Int)) := by omega
   rw [List.take_of_length_le (by rw [← Hn.out]; exact Nat.le_refl _)] at HO
   obtain ⟨v0, hbx, hox⟩ := HO.out
   obtain ⟨A', c', rfl, hS⟩ := hox.read (by omega)
   rw [← Hn.out] at hS hbx hox
   have g1 := hbx.cell
   have g2 := HR.out.cell
   have g3 := HR.out.frozen
   have hset := hox.set (ob := rb) (.slice A' k c') (by have := Hrb.out; omega) (hox.not_box HR.out (by decide))
   have HSS := hid hset
   have HRs := hid (HR.out.set (.slice A' k c'))
   have g4 := HRs.out.cell
   have HB := hid (HE.out.grown (grownBy_setCell' wr rb (.slice A' k c')) HE.out.size (fun j e => by cases e; have := Hrb.out; omega))
   clear hbx hox hset hS
   go_wp2
   (try simp only [Exit.inBlock, Exit.then])
   refine bodyPost_ret (v := .agg #[.slice A' k c']) ?_ rfl ?_
   ·simp [results, Tryz.f123, go_sem, loadVar, g4]
   ·obtain ⟨A2, c2, e2, hS2⟩ := HSS.out.read (by omega)
    rw [← Hn.out] at e2 hS2
    simp only [Value.slice.injEq, true_and] at e2
    obtain ⟨rfl, rfl⟩ := e2
    exact ⟨_, _, rfl, hS2, HB.out⟩
end Go.Proofs.YtakebdeldndaaaaGreatDoor
