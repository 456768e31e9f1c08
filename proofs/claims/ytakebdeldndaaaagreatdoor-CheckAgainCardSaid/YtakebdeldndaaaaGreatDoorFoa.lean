/- Several texts of this claim's, one behind the other. -/
import Derived.Test.YtakebdeldndaaaaGreatDoorFo1
import Derived.Test.YtakebdeldndaaaaGreatDoorFound
import Derived.Test.YtakebdeldndaaaaGreatDoorEvs
import Derived.Stop.Asserts
/- A projection is made. -/
namespace Go.Proofs.YtakebdeldndaaaaGreatDoor
open Go Go.RowKit
set_option linter.unusedSimpArgs false
set_option linter.unusedVariables false

structure StIs (w : World) (S : Nat → Prop) (s m : Nat) (kv : Value) (q : List ClV) (D : Ents) : Prop where
  row : ∃ A c, w.heap[s]? = some (.cells #[kv, .slice A q.length c, .map (some m)] 188) ∧ SlR RCl w (Out S w) A q.length c q
  map : MapI w m D
  sIn : S s
  mIn : S m
  ne : s ≠ m
theorem StIs.lt {w : World} {S : Nat → Prop} {s m : Nat} {kv : Value} {q : List ClV} {D : Ents} (h : StIs w S s m kv q D) : s < w.heap.size ∧ m < w.heap.size := by
  obtain ⟨A, c, h1, -⟩ := h.row
  exact ⟨(Array.getElem?_eq_some_iff.1 h1).1, h.map.lt⟩
theorem StIs.more {w w' : World} {S S' : Nat → Prop} {s m : Nat} {kv : Value} {q : List ClV} {D : Ents} (h : StIs w S s m kv q D) (hE : Ext w w') (hS : ∀ k, S' k → S k ∨ w.heap.size ≤ k) (hs : S' s) (hm : S' m) : StIs w' S' s m kv q D := by
  obtain ⟨A, c, h1, h2⟩ := h.row
  exact ⟨⟨A, c, (hE.block s h.lt.1).trans h1, slR_more h2 hE hS⟩, h.map.ext hE, hs, hm, h.ne⟩
theorem StIs.ext {w w' : World} {S : Nat → Prop} {s m : Nat} {kv : Value} {q : List ClV} {D : Ents} (h : StIs w S s m kv q D) (hE : Ext w w') : StIs w' S s m kv q D := h.more hE (fun _ hk => .inl hk) h.sIn h.mIn
theorem StIs.kept {w w' : World} {S : Nat → Prop} {s m a b : Nat} {kv : Value} {q : List ClV} {D : Ents} (h : StIs w S s m kv q D) (hk : Kept2 a b w w') (ha : S a) (hb : S b) (h1 : s ≠ a) (h2 : s ≠ b) (h3 : m ≠ a) (h4 : m ≠ b) : StIs w' S s m kv q D := by
  obtain ⟨A, c, hr, hq⟩ := h.row
  exact ⟨⟨A, c, (hk.block s h.lt.1 h1 h2).trans hr, slR_kept hq hk ha hb⟩, h.map.keep (hk.block m h.lt.2 h3 h4), h.sIn, h.mIn, h.ne⟩
theorem StIs.turn {w w' : World} {S : Nat → Prop} {s m : Nat} {kv : Value} {q : List ClV} {D D' : Ents} (h : StIs w S s m kv q D) (hg : w.grownBy w' (some m)) (hM : MapI w' m D') : StIs w' S s m kv q D' := by
  obtain ⟨A, c, hr, hq⟩ := h.row
  exact ⟨⟨A, c, (hg.block s h.lt.1 (fun e => h.ne (by simpa using e))).trans hr, slR_kept hq (Kept2.of_grown (d := s) hg (.inr rfl)) h.sIn h.mIn⟩, hM, h.sIn, h.mIn, h.ne⟩
structure StNew (w : World) (n0 s m : Nat) (kv : Value) (q : List ClV) (D : Ents) : Prop where
  row : ∃ A c, w.heap[s]? = some (.cells #[kv, .slice A q.length c, .map (some m)] 188) ∧ SlR RCl w (fun k => (n0 ≤ k ∧ k < w.heap.size) ∧ k ≠ s ∧ k ≠ m) A q.length c q
  map : MapI w m D
  ne : s ≠ m
theorem StNew.lt {w : World} {n0 s m : Nat} {kv : Value} {q : List ClV} {D : Ents} (h : StNew w n0 s m kv q D) : s < w.heap.size ∧ m < w.heap.size := by
  obtain ⟨A, c, h1, -⟩ := h.row
  exact ⟨(Array.getElem?_eq_some_iff.1 h1).1, h.map.lt⟩
theorem StNew.ext {w w' : World} {n0 s m : Nat} {kv : Value} {q : List ClV} {D : Ents} (h : StNew w n0 s m kv q D) (hE : Ext w w') : StNew w' n0 s m kv q D := by
  obtain ⟨A, c, h1, h2⟩ := h.row
  exact ⟨⟨A, c, (hE.block s h.lt.1).trans h1, (h2.ext fun k hk => hE.block k hk.1.2).mono fun k hk => ⟨⟨hk.1.1, Nat.lt_of_lt_of_le hk.1.2 hE.size⟩, hk.2⟩⟩, h.map.ext hE, h.ne⟩
theorem StNew.is {w : World} {S : Nat → Prop} {n0 s m : Nat} {kv : Value} {q : List ClV} {D : Ents} (h : StNew w n0 s m kv q D) (hS : ∀ k, S k → k < n0 ∨ k = s ∨ k = m) (hs : S s) (hm : S m) : StIs w S s m kv q D := by
  obtain ⟨A, c, h1, h2⟩ := h.row
  exact ⟨⟨A, c, h1, h2.mono fun k hk => ⟨hk.1.2, fun h' => by rcases hS k h' with h | h | h <;> omega⟩⟩, h.map, hs, hm, h.ne⟩
theorem StNew.from {w : World} {n0 n1 s m : Nat} {kv : Value} {q : List ClV} {D : Ents} (h : StNew w n0 s m kv q D) (hn : n1 ≤ n0) : StNew w n1 s m kv q D := by
  obtain ⟨A, c, h1, h2⟩ := h.row
  exact ⟨⟨A, c, h1, h2.mono fun k hk => ⟨⟨Nat.le_trans hn hk.1.1, hk.1.2⟩, hk.2⟩⟩, h.map, h.ne⟩
def pM (n0 : Nat) : SPred := ⟨fun v W => ∃ m, v = .map (some m) ∧ n0 ≤ m ∧ MapI W m [], fun _ _ _ ⟨m, e, h1, h2⟩ hE => ⟨m, e, h1, h2.ext hE⟩⟩
def pQ (n0 n : Nat) (q : List ClV) : SPred := ⟨fun v W => ∃ A c, v = .agg #[.slice A n c] ∧ SlR RCl W (Yg n0 W) A n c q, fun _ _ _ ⟨A, c, e, h⟩ hE => ⟨A, c, e, yg_keep h (.of_ext hE)⟩⟩
def IsRow (w : World) (k : Nat) : Prop := ∃ cs t f, w.heap[k]? = some (.cells cs t f)
theorem isRow_of_cell {w : World} {b o : Nat} {v : Value} (h : w.cell? ⟨b, o, none⟩ = some v) : IsRow w b := by
  unfold World.cell? at h
  simp only at h
  split at h
  · rename_i cs t f hh; exact ⟨_, _, _, hh⟩
  · cases h
theorem RK.rows {w : World} {K : Nat → Prop} {A : Option Addr} {cs : List Value} (h : RK w K A cs) : RK w (fun k => K k ∧ IsRow w k) A cs := by
  rcases h with h | ⟨b, o, e, kb, h⟩
  · exact .inl h
  · cases cs with
    | nil => exact .inl rfl
    | cons v l => exact .inr ⟨b, o, e, ⟨kb, isRow_of_cell (h 0 v rfl)⟩, h⟩
theorem txt_rows {w : World} {K : Nat → Prop} {A : Option Addr} {n c : Nat} {xs : List Str} (h : SlR Rep.txt w K A n c xs) : SlR Rep.txt w (fun k => K k ∧ IsRow w k) A n c xs := by
  have hs := h.short
  obtain ⟨h1, h2, h3, cs, hr, hv⟩ := h
  have e := rows_txt_eq hr
  subst e
  exact ⟨h1, h2, h3, _, rows_txt hs, hv.rows⟩
theorem cl_rows {w : World} {K : Nat → Prop} : ∀ {xs : List ClV} {cs : List Value}, Rows RCl w K xs cs → Rows RCl w (fun k => K k ∧ IsRow w k) xs cs
  | [], _, h => h
  | x :: xs, _, ⟨c, r, e, hc, hr⟩ => by
    obtain ⟨A, a, B, b, rfl, h1, h2⟩ := cl_rel hc
    exact ⟨_, r, e, cl_mk (txt_rows h1) (txt_rows h2), cl_rows hr⟩
theorem cls_rows {w : World} {K : Nat → Prop} {A : Option Addr} {n c : Nat} {xs : List ClV} (h : SlR RCl w K A n c xs) : SlR RCl w (fun k => K k ∧ IsRow w k) A n c xs := by
  obtain ⟨h1, h2, h3, cs, hr, hv⟩ := h
  exact ⟨h1, h2, h3, cs, cl_rows hr, hv.rows⟩
theorem MapI.not_row {w : World} {m : Nat} {D : Ents} (h : MapI w m D) : ¬ IsRow w m := by
  rintro ⟨cs, t, f, e⟩
  obtain ⟨es, clock, h1, -⟩ := h
  rw [h1] at e; cases e
def pB (n0 n : Nat) (d : DefV) : SPred := ⟨fun v W => ∃ A c m, v = .agg #[kdVal d, .slice A n c, .map (some m)] ∧ SlR RCl W (Yg n0 W) A n c d.q ∧ n0 ≤ m ∧ MapI W m [],
  fun _ _ _ ⟨A, c, m, e, h1, h2, h3⟩ hE => ⟨A, c, m, e, yg_keep h1 (.of_ext hE), h2, h3.ext hE⟩⟩
def pP (n0 : Nat) (d : DefV) : SPred := ⟨fun v W => ∃ s m, v = .pointer (some ⟨s, 0, none⟩) ∧ n0 ≤ s ∧ n0 ≤ m ∧ StNew W n0 s m (kdVal d) d.q [], fun _ _ _ ⟨s, m, e, h1, h2, h3⟩ hE => ⟨s, m, e, h1, h2, h3.ext hE⟩⟩
theorem st_made {W : World} {n0 n c m : Nat} {A : Option Addr} {d : DefV} (h1 : SlR RCl W (Yg n0 W) A n c d.q) (h3 : MapI W m []) : StNew (W.alloc (.cells #[kdVal d, .slice A n c, .map (some m)] 188)) n0 W.heap.size m (kdVal d) d.q [] := by
  have hE := ext_alloc W (.cells #[kdVal d, .slice A n c, .map (some m)] 188)
  have hn : n = d.q.length := h1.1
  subst hn
  have hml := h3.lt
  refine ⟨⟨A, c, heap_alloc_last _ _, ?_⟩, h3.ext hE, by omega⟩
  have h1' := cls_rows h1
  refine (h1'.ext fun k hk => hE.block k hk.1.2).mono fun k hk => ⟨⟨hk.1.1, Nat.lt_of_lt_of_le hk.1.2 hE.size⟩, ?_, ?_⟩
  · have := hk.1.2; omega
  · rintro rfl
    exact h3.not_row hk.2
theorem kd_cell (d : DefV) : ∃ t u, kdVal d = .iface t u := by
  unfold kdVal
  split
  · exact ⟨_, _, rfl⟩
  · split
    · exact ⟨_, _, rfl⟩
    · split <;> exact ⟨_, _, rfl⟩
set_option maxRecDepth 100000 in
set_option maxHeartbeats 4000000 in
theorem foldNew_at {w : World} {A : Option Addr} {n c : Nat} {d : DefV} (h : SlR RCl w (· < w.heap.size) A n c d.q) :
    Calls Tryz.prog 82 #[defVal d A n c] w fun e w' => Ext w w' ∧ ((mayDef d ≠ 0 ∧ e = .returned (.tuple #[.pointer none, .int .i64 (mayDef d)])) ∨
      (mayDef d = 0 ∧ ∃ s m, e = .returned (.tuple #[.pointer (some ⟨s, 0, none⟩), .int .i64 0]) ∧ w.heap.size ≤ s ∧ w.heap.size ≤ m ∧ StNew w' w.heap.size s m (kdVal d) d.q [])) := by
  have hv := hid (show defVal d A n c = .agg #[.int .i64 d.kind, .string (str d.field), .slice A n c] from rfl)
  rw [hv.out]
  have H := hid h
  clear h
  have HE0 := hid (ext_alloc w (.cells #[.int .i64 d.kind, .string (str d.field), .slice A n c] 72))
  have Hbx := hid (show DefBox w.heap.size d A n c (w.alloc (.cells #[.int .i64 d.kind, .string (str d.field), .slice A n c] 72)) from heap_alloc_last _ _)
  obtain ⟨b0, b1, b2⟩ := Hbx.out.cells
  have hmd := mayDef_at (H.out.grow HE0.out)
  rw [hv.out] at hmd
  go_enter Tryz.func82, Tryz.ntmps82
  go_wp2_with fail
  refine hmd.mono ?_
  rintro e w1 ⟨rfl, hE⟩
  have HE1 := hid (Ext.trans' HE0.out hE)
  have Hb1 := hid (Hbx.out.ext hE)
  clear hE hmd b0 b1 b2
  by_cases hm : mayDef d = 0
  rotate_left
  · have HmO := hid hm
    obtain ⟨x, hx⟩ : ∃ x, x = mayDef d := ⟨_, rfl⟩
    have Hme := hid hx.symm
    rw [← hx] at hm ⊢
    clear hx
    go_wp2
    go_ret2
    exact ⟨HE1.out, .inl ⟨HmO.out, by rw [Hme.out]; rfl⟩⟩
  have Hm := hid hm
  have Hq := hid (show mayQ d.q = 0 by
    unfold mayDef at hm
    split at hm
    · cases hm
    split at hm
    · rename_i h1 h2; exact absurd hm h2
    · rename_i h1 h2; exact Classical.byContradiction fun e => h2 e)
  rw [hm]
  clear hm
  go_wp2_with fail
  obtain ⟨n0, hn0⟩ : ∃ n0, n0 = w1.heap.size := ⟨_, rfl⟩
  have Hn0 := hid hn0
  clear hn0
  apply wp_drawn [isV _, isV (kdVal d), isV _, isV _, pQ n0 n d.q, pM n0, pB n0 n d, pP n0 d, pP n0 d, isV _] (by kernel_rfl)
  · kernel_rfl
  · refine ⟨?nws0, ?nws1, ?nws2, ?nws3, ?nws4, ?nws5, ?nws6, ?nws7, ?nws8, ?nws9, trivial⟩
    case nws0 =>
      intro v W hE hd; simp only [Region.wanted, ↓reduceIte]; (try simp [deps, waitsOn, Region.binds, knowing, isV, ownsV, anyV] at hd); simp only [putAll, List.take_succ_cons, List.take_zero, List.drop_succ_cons, List.drop_zero, Act.put, List.setIfInBounds_toArray, List.set_cons_zero, List.set_cons_succ, Nat.zero_add, Nat.reduceAdd]
      obtain ⟨e0, e1, e2⟩ := (Hb1.out.ext hE).cells
      go_simp
      exact ⟨Below.refl _ _, rfl⟩
    case nws1 =>
      intro v W hE hd; simp only [Region.wanted, ↓reduceIte]; (try simp [deps, waitsOn, Region.binds, knowing, isV, ownsV, anyV] at hd); simp only [putAll, List.take_succ_cons, List.take_zero, List.drop_succ_cons, List.drop_zero, Act.put, List.setIfInBounds_toArray, List.set_cons_zero, List.set_cons_succ, Nat.zero_add, Nat.reduceAdd]
      go_simp
      have hcc := folders_at (w := W) (A := A) (n := n) (c := c) (d := d)
      rw [hv.out] at hcc
      refine hcc.mono ?_
      rintro e w' ⟨rfl, hE2⟩
      have HE2 := hid hE2
      clear hE2 hcc
      obtain ⟨t, u, hk⟩ := kd_cell d
      rw [hk]
      go_simp
      exact ⟨HE2.out, rfl⟩
    case nws2 =>
      intro v W hE hd; simp only [Region.wanted, ↓reduceIte]; (try simp [deps, waitsOn, Region.binds, knowing, isV, ownsV, anyV] at hd); simp only [putAll, List.take_succ_cons, List.take_zero, List.drop_succ_cons, List.drop_zero, Act.put, List.setIfInBounds_toArray, List.set_cons_zero, List.set_cons_succ, Nat.zero_add, Nat.reduceAdd]; go_simp; exact ⟨Below.refl _ _, rfl⟩
    case nws3 =>
      intro v W hE hd; simp only [Region.wanted, ↓reduceIte]; (try simp [deps, waitsOn, Region.binds, knowing, isV, ownsV, anyV] at hd); simp only [putAll, List.take_succ_cons, List.take_zero, List.drop_succ_cons, List.drop_zero, Act.put, List.setIfInBounds_toArray, List.set_cons_zero, List.set_cons_succ, Nat.zero_add, Nat.reduceAdd]
      obtain ⟨e0, e1, e2⟩ := (Hb1.out.ext hE).cells
      go_simp
      exact ⟨Below.refl _ _, rfl⟩
    case nws4 =>
      intro v W hE hd; simp only [Region.wanted, ↓reduceIte]; (try simp [deps, waitsOn, Region.binds, knowing, isV, ownsV, anyV] at hd); simp only [putAll, List.take_succ_cons, List.take_zero, List.drop_succ_cons, List.drop_zero, Act.put, List.setIfInBounds_toArray, List.set_cons_zero, List.set_cons_succ, Nat.zero_add, Nat.reduceAdd]
      go_simp
      refine (norm_at (H.out.grow (Ext.trans' HE1.out hE)) Hq.out).mono ?_
      rintro e w' ⟨A', c', rfl, hS, hE2⟩
      have HS := hid hS; have HE2 := hid hE2
      have Hsz := hid hE.size
      clear hE2 hS
      go_simp
      exact ⟨HE2.out, A', c', rfl, HS.out.mono fun k hk => ⟨by have := hk.1; have := Hsz.out; have := Hn0.out; omega, hk.2⟩⟩
    case nws5 =>
      intro v W hE hd; simp only [Region.wanted, ↓reduceIte]; (try simp [deps, waitsOn, Region.binds, knowing, isV, ownsV, anyV] at hd); simp only [putAll, List.take_succ_cons, List.take_zero, List.drop_succ_cons, List.drop_zero, Act.put, List.setIfInBounds_toArray, List.set_cons_zero, List.set_cons_succ, Nat.zero_add, Nat.reduceAdd]
      have Hsz := hid hE.size
      have hmk := run_makeMap (P := Tryz.prog) 186 W
      go_simp
      exact ⟨ext_alloc _ _, W.heap.size, rfl, by rw [Hn0.out]; exact Hsz.out, MapI.made W⟩
    case nws6 =>
      intro v W hE hd; simp only [Region.wanted, ↓reduceIte]; (try simp [deps, waitsOn, Region.binds, knowing, isV, ownsV, anyV] at hd); simp only [putAll, List.take_succ_cons, List.take_zero, List.drop_succ_cons, List.drop_zero, Act.put, List.setIfInBounds_toArray, List.set_cons_zero, List.set_cons_succ, Nat.zero_add, Nat.reduceAdd]
      obtain ⟨h1, ⟨A', c', h4, hS⟩, ⟨m, h5, hm0, hM⟩⟩ := hd
      have HS := hid hS; have HM := hid hM
      clear hS hM
      rw [h1, h4, h5]
      obtain ⟨t, u, hk⟩ := kd_cell d
      have Hk := hid hk
      rw [hk]
      go_simp
      refine ⟨Below.refl _ _, A', c', m, ?_, HS.out, hm0, HM.out⟩
      rw [Hk.out]
    case nws7 =>
      intro v W hE hd; simp only [Region.wanted, ↓reduceIte]; (try simp [deps, waitsOn, Region.binds, knowing, isV, ownsV, anyV] at hd); simp only [putAll, List.take_succ_cons, List.take_zero, List.drop_succ_cons, List.drop_zero, Act.put, List.setIfInBounds_toArray, List.set_cons_zero, List.set_cons_succ, Nat.zero_add, Nat.reduceAdd]
      obtain ⟨A', c', m, h6, hS, hm0, hM⟩ := hd
      have Hst := hid (st_made (d := d) hS hM)
      have Hsz := hid hE.size
      clear hS hM
      rw [h6]
      obtain ⟨t, u, hk⟩ := kd_cell d
      rw [hk] at Hst ⊢
      go_simp
      exact ⟨ext_alloc _ _, W.heap.size, m, rfl, by have := Hsz.out; have := Hn0.out; omega, hm0, by rw [hk]; exact Hst.out⟩
    case nws8 =>
      intro v W hE hd; simp only [Region.wanted, ↓reduceIte]; (try simp [deps, waitsOn, Region.binds, knowing, isV, ownsV, anyV] at hd); simp only [putAll, List.take_succ_cons, List.take_zero, List.drop_succ_cons, List.drop_zero, Act.put, List.setIfInBounds_toArray, List.set_cons_zero, List.set_cons_succ, Nat.zero_add, Nat.reduceAdd]
      obtain ⟨s, m, h7, hs0, hm0, hSt⟩ := hd.1
      have HSt := hid hSt
      clear hSt
      rw [h7]
      go_simp
      exact ⟨Below.refl _ _, s, m, rfl, hs0, hm0, HSt.out⟩
    case nws9 =>
      intro v W hE hd; simp only [Region.wanted, ↓reduceIte]; (try simp [deps, waitsOn, Region.binds, knowing, isV, ownsV, anyV] at hd); simp only [putAll, List.take_succ_cons, List.take_zero, List.drop_succ_cons, List.drop_zero, Act.put, List.setIfInBounds_toArray, List.set_cons_zero, List.set_cons_succ, Nat.zero_add, Nat.reduceAdd]; go_simp; exact ⟨Below.refl _ _, rfl⟩
  · rintro v W9 hE ⟨-, -, -, -, -, -, -, -, e8, e9, -⟩
    have e8 := (show _ from e8)
    have e9 := (show v 9 = _ from e9)
    simp only [putAll, List.take_succ_cons, List.take_zero, List.drop_succ_cons, List.drop_zero, Act.put, List.setIfInBounds_toArray, List.set_cons_zero, List.set_cons_succ, Nat.zero_add, Nat.reduceAdd]
    obtain ⟨s, m, h8, hs0, hm0, hSt⟩ := e8
    have h9 : v 9 = .int .i64 0 := e9
    have HSt := hid hSt
    rw [h8, h9]
    clear e8 e9 hSt
    have HE9 := hid (Ext.trans' HE1.out hE)
    go_wp2
    go_ret2
    exact ⟨HE9.out, .inr ⟨Hm.out, s, m, rfl, by have := HE1.out.size; have := Hn0.out; omega, by have := HE1.out.size; have := Hn0.out; omega, HSt.out.from (by have := HE1.out.size; have := Hn0.out; omega)⟩⟩
end Go.Proofs.YtakebdeldndaaaaGreatDoor

/- A projection's state: keeps, set, fits. -/
namespace Go.Proofs.YtakebdeldndaaaaGreatDoor
open Go Go.RowKit
set_option linter.unusedSimpArgs false
set_option linter.unusedVariables false

def fitsN (n : Int) : Bool := decide (-1125899906842624 ≤ n ∧ n ≤ 1125899906842624)
def setF (d : DefV) (key : Str) (n : Int) (D : Ents) : Ents := if n = 0 ∧ d.kind ≠ 3 then delI key D else putI key n D
theorem StIs.cells {w : World} {S : Nat → Prop} {s m : Nat} {kv : Value} {q : List ClV} {D : Ents} (h : StIs w S s m kv q D) :
    ∃ A c, w.cell? ⟨s, 0, none⟩ = some kv ∧ w.cell? ⟨s, 1, none⟩ = some (.slice A q.length c) ∧ w.cell? ⟨s, 2, none⟩ = some (.map (some m)) ∧ SlR RCl w (Out S w) A q.length c q := by
  obtain ⟨A, c, hr, hq⟩ := h.row
  refine ⟨A, c, ?_, ?_, ?_, hq⟩ <;> · rw [cell_of_row _ _ _ _ _ _ hr]; rfl
theorem fits_at (n : Int) (w : World) : Calls Tryz.prog 153 #[.int .i64 n] w fun e w' => e = .returned (.bool (fitsN n)) ∧ w' = w := by
  go_enter Tryz.func153, Tryz.ntmps153
  by_cases h1 : -1125899906842624 ≤ n
  · by_cases h2 : n ≤ 1125899906842624
    · have hr := hid (show fitsN n = true from decide_eq_true ⟨h1, h2⟩)
      go_wp2
      go_ret
      exact ⟨by rw [hr.out]; rfl, rfl⟩
    · have hr := hid (show fitsN n = false from decide_eq_false fun h => h2 h.2)
      go_wp2
      go_ret
      exact ⟨by rw [hr.out]; rfl, rfl⟩
  · have hr := hid (show fitsN n = false from decide_eq_false fun h => h1 h.1)
    go_wp2
    go_ret
    exact ⟨by rw [hr.out]; rfl, rfl⟩
set_option maxRecDepth 100000 in
theorem keeps_at {w : World} {S : Nat → Prop} {s m : Nat} {d : DefV} {q : List ClV} {D : Ents} (h : StIs w S s m (kdVal d) q D) :
    Calls Tryz.prog 154 #[.pointer (some ⟨s, 0, none⟩)] w fun e w' => e = .returned (.bool (decide (d.kind = 3))) ∧ w' = w := by
  obtain ⟨A, c, c0, -, -, -⟩ := h.cells
  clear h
  unfold kdVal at c0
  go_enter Tryz.func154, Tryz.ntmps154
  by_cases h2 : d.kind = 2
  · rw [if_pos h2] at c0
    have hr := hid (show decide (d.kind = 3) = false from decide_eq_false (by omega))
    have ha := run_typeAssert_lacksB (z := .nilIface) Tryz.underlying242 (t := 215) (by kernel_rfl) (by kernel_rfl) (.agg #[.string (str d.field)]) 183 w
    clear h2
    go_wp2
    go_ret
    exact ⟨by rw [hr.out]; rfl, rfl⟩
  by_cases h3 : d.kind = 3
  · rw [if_neg h2, if_pos h3] at c0
    have hr := hid (show decide (d.kind = 3) = true from decide_eq_true h3)
    have ha := run_typeAssert_hasB Tryz.underlying242 (t := 216) (by kernel_rfl) (.agg #[.string (str d.field)]) 183 w
    clear h2 h3
    go_wp2
    go_ret
    exact ⟨by rw [hr.out]; rfl, rfl⟩
  have hr := hid (show decide (d.kind = 3) = false from decide_eq_false h3)
  by_cases h4 : d.kind = 4
  · rw [if_neg h2, if_neg h3, if_pos h4] at c0
    have ha := run_typeAssert_lacksB (z := .nilIface) Tryz.underlying242 (t := 218) (by kernel_rfl) (by kernel_rfl) (.agg #[]) 183 w
    clear h2 h3 h4
    go_wp2
    go_ret
    exact ⟨by rw [hr.out]; rfl, rfl⟩
  · rw [if_neg h2, if_neg h3, if_neg h4] at c0
    have ha := run_typeAssert_lacksB (z := .nilIface) Tryz.underlying242 (t := 219) (by kernel_rfl) (by kernel_rfl) (.agg #[]) 183 w
    clear h2 h3 h4
    go_wp2
    go_ret
    exact ⟨by rw [hr.out]; rfl, rfl⟩
set_option maxRecDepth 100000 in
theorem set_at {w : World} {S : Nat → Prop} {s m : Nat} {d : DefV} {q : List ClV} {D : Ents} (h : StIs w S s m (kdVal d) q D) (key : Str) (n : Int) (hn : -9223372036854775808 ≤ n ∧ n ≤ 9223372036854775807) (hk : Short key) (hD : D.length < 1000000) :
    Calls Tryz.prog 240 #[.pointer (some ⟨s, 0, none⟩), .string (str key), .int .i64 n] w fun e w' => e = .returned (.tuple #[]) ∧ StIs w' S s m (kdVal d) q (setF d key n D) ∧ Kept2 s m w w' := by
  have hkp := keeps_at h
  obtain ⟨A, c, c0, c1, c2, -⟩ := h.cells
  have H := hid h
  clear c0 c1
  go_enter Tryz.func240, Tryz.ntmps240
  have hst : ∃ w', (Instr.mapUpdate 186 (.map (some m)) (.string (str key)) (.int .i64 n)).run Tryz.prog w = .ok () w' ∧ Hid (MapI w' m (putI key n D)) ∧ Hid (w.mapTurned w' m) := by
    obtain ⟨w', h1, h2, h3⟩ := h.map.store key n hn hk hD
    exact ⟨w', h1, hid h2, hid h3⟩
  clear h
  obtain ⟨w1, r1, M1, T1⟩ := hst
  by_cases h0 : n = 0
  · subst h0
    go_wp2_with fail
    refine hkp.mono ?_
    clear hkp
    rintro e w' ⟨rfl, rfl⟩
    by_cases h3 : d.kind = 3
    · have hr := hid (show setF d key 0 D = putI key 0 D by unfold setF; rw [if_neg (fun h => h.2 h3)])
      have h3b : decide (d.kind = 3) = true := decide_eq_true h3
      rw [h3b]
      go_wp2
      go_end0
      exact ⟨rfl, by rw [hr.out]; exact H.out.turn T1.out.grown M1.out, Kept2.of_grown T1.out.grown (.inr rfl)⟩
    · have hr := hid (show setF d key 0 D = delI key D by unfold setF; rw [if_pos ⟨rfl, h3⟩])
      have h3b : decide (d.kind = 3) = false := decide_eq_false h3
      rw [h3b]
      clear r1
      obtain ⟨w2, r2, M2, T2⟩ : ∃ w2, (∀ ty, (Builtin.delete_ #[186, 9] ty #[.map (some m), .string (str key)]).run Tryz.prog w' = .ok (.tuple #[]) w2) ∧ Hid (MapI w2 m (delI key D)) ∧ Hid (w'.mapTurned w2 m) := by
        obtain ⟨w2, a, b, c⟩ := H.out.map.drop key hk 0
        exact ⟨w2, fun ty => a, hid b, hid c⟩
      go_wp2
      refine bodyPost_ret (results_none rfl _ _ _) rfl ?_
      exact ⟨rfl, by rw [hr.out]; exact H.out.turn T2.out.grown M2.out, Kept2.of_grown T2.out.grown (.inr rfl)⟩
  · have hr := hid (show setF d key n D = putI key n D by unfold setF; rw [if_neg (fun h => h0 h.1)])
    clear hkp
    go_wp2
    go_end0
    exact ⟨rfl, by rw [hr.out]; exact H.out.turn T1.out.grown M1.out, Kept2.of_grown T1.out.grown (.inr rfl)⟩
end Go.Proofs.YtakebdeldndaaaaGreatDoor

/- What each kind does with an event. -/
namespace Go.Proofs.YtakebdeldndaaaaGreatDoor
open Go Go.RowKit
set_option linter.unusedSimpArgs false
set_option linter.unusedVariables false

theorem str_append (a b : List UInt8) : str (a ++ b) = str a ++ str b := by
  apply ByteArray.ext
  simp [str, ByteArray.data_append]
structure EvS (w : World) (S : Nat → Prop) (A : Option Addr) (n c : Nat) (B : Option Addr) (m d : Nat) (e : EvV) : Prop where
  st : Short e.st
  ty : Short e.ty
  tags : SlR Rep.txt w (Out S w) A n c e.tags
  fields : SlR RField w (Out S w) B m d e.fields
theorem EvS.is {w : World} {S : Nat → Prop} {A B : Option Addr} {n c m d : Nat} {e : EvV} (h : EvS w S A n c B m d e) : EvIn w A n c B m d e := ⟨h.st, h.ty, slR_out h.tags, slR_out h.fields⟩
theorem EvS.more {w w' : World} {S S' : Nat → Prop} {A B : Option Addr} {n c m d : Nat} {e : EvV} (h : EvS w S A n c B m d e) (hE : Ext w w') (hS : ∀ k, S' k → S k ∨ w.heap.size ≤ k) : EvS w' S' A n c B m d e := ⟨h.st, h.ty, slR_more h.tags hE hS, slR_more h.fields hE hS⟩
theorem EvS.ext {w w' : World} {S : Nat → Prop} {A B : Option Addr} {n c m d : Nat} {e : EvV} (h : EvS w S A n c B m d e) (hE : Ext w w') : EvS w' S A n c B m d e := h.more hE fun _ hk => .inl hk
theorem EvS.kept {w w' : World} {S : Nat → Prop} {A B : Option Addr} {n c m d a b : Nat} {e : EvV} (h : EvS w S A n c B m d e) (hk : Kept2 a b w w') (ha : S a) (hb : S b) : EvS w' S A n c B m d e := ⟨h.st, h.ty, slR_kept h.tags hk ha hb, slR_kept h.fields hk ha hb⟩
structure SmallE (e : EvV) : Prop where
  st : e.st.length ≤ 1000
  tags : ∀ t ∈ e.tags, t.length ≤ 1000
  many : e.tags.length ≤ 1000
  num : ∀ f ∈ e.fields, -1125899906842624 ≤ f.2 ∧ f.2 ≤ 1125899906842624
theorem valF_small {e : EvV} (h : SmallE e) (f : Str) : -1125899906842624 ≤ (valF e.fields f).getD 0 ∧ (valF e.fields f).getD 0 ≤ 1125899906842624 := by
  unfold valF
  cases hx : e.fields.find? (·.1 == f) with
  | none => exact ⟨by decide, by decide⟩
  | some x => exact h.num x (List.mem_of_find?_eq_some hx)
def FitB (B : Int) (D : Ents) : Prop := ∀ p ∈ D, -B ≤ p.2 ∧ p.2 ≤ B
theorem atI_fit {B : Int} {D : Ents} (h : FitB B D) (hB : 0 ≤ B) (k : Str) : -B ≤ atI D k ∧ atI D k ≤ B := by
  unfold atI
  cases hx : D.find? (·.1 == k) with
  | none => exact ⟨show -B ≤ (0 : Int) by omega, show (0 : Int) ≤ B from hB⟩
  | some x => exact h x (List.mem_of_find?_eq_some hx)
theorem mem_insI (x p : List UInt8 × Int) : ∀ D : Ents, p ∈ insI x D → p = x ∨ p ∈ D
  | [], h => by unfold insI at h; simp at h; exact .inl h
  | y :: r, h => by
    unfold insI at h
    split at h
    · rcases List.mem_cons.1 h with e | h
      · exact .inl e
      · exact .inr h
    · rcases List.mem_cons.1 h with e | h
      · exact .inr (by simp [e])
      · rcases mem_insI x p r h with e | h
        · exact .inl e
        · exact .inr (by simp [h])
theorem mem_setF {d : DefV} {k : Str} {n : Int} {D : Ents} {p : List UInt8 × Int} (h : p ∈ setF d k n D) : p = (k, n) ∨ p ∈ D := by
  unfold setF putI delI at h
  split at h
  · exact .inr (List.mem_filter.1 h).1
  · rcases mem_insI _ _ _ h with h | h
    · exact .inl h
    · exact .inr (List.mem_filter.1 h).1
theorem FitB.set {B : Int} {D : Ents} (h : FitB B D) {d : DefV} {k : Str} {n : Int} (hn : -B ≤ n ∧ n ≤ B) : FitB B (setF d k n D) := fun p hp => by
  rcases mem_setF hp with e | hp
  · rw [e]; exact hn
  · exact h p hp
theorem FitB.le {B B' : Int} {D : Ents} (h : FitB B D) (hb : B ≤ B') : FitB B' D := fun p hp => by have := h p hp; omega
theorem length_setF (d : DefV) (k : Str) (n : Int) (D : Ents) : (setF d k n D).length ≤ D.length + 1 := by
  unfold setF
  split
  · have := length_delI k D; omega
  · exact length_putI k n D
def keyF (t st : Str) : Str := t ++ [32] ++ st
def countF (d : DefV) (k : Str) (D : Ents) : Ents := setF d k (atI D k + 1) D
def membersF (d : DefV) (st : Str) (ts : List Str) (D : Ents) : Ents := ts.foldl (fun D t => countF d (keyF t st) D) D
set_option maxRecDepth 100000 in
theorem countStep_at {w : World} {S : Nat → Prop} {s m : Nat} {df : DefV} {q : List ClV} {D : Ents} (h : StIs w S s m (kdVal df) q D) {A B : Option Addr} {n c k d : Nat} {e : EvV} (hD : D.length < 1000000) (hf : FitB 2305843009213693952 D) :
    Calls Tryz.prog 244 #[.agg #[], .pointer (some ⟨s, 0, none⟩), evVal A n c B k d e] w fun x w' => x = .returned (.int .i64 0) ∧ StIs w' S s m (kdVal df) q (countF df [] D) ∧ Kept2 s m w w' := by
  unfold evVal
  go_enter Tryz.func244, Tryz.ntmps244
  have HEa := hid (ext_alloc w (.cells #[] 219))
  have HEb := hid (Ext.trans' HEa.out (ext_alloc (w.alloc (.cells #[] 219)) (.cells #[.string (str e.st), .string (str e.ty), .slice A n c, .slice B k d] 113)))
  have HSt := hid (h.ext HEb.out)
  have Hbx := hid (show EvBox (w.heap.size + 1) A n c B k d e ((w.alloc (.cells #[] 219)).alloc (.cells #[.string (str e.st), .string (str e.ty), .slice A n c, .slice B k d] 113)) from by
    have := heap_alloc_last (w.alloc (.cells #[] 219)) (.cells #[.string (str e.st), .string (str e.ty), .slice A n c, .slice B k d] 113)
    simpa [EvBox] using this)
  have hb := atI_fit hf (by decide) []
  obtain ⟨-, -, -, -, c2, -⟩ := HSt.out.cells
  have hl := (HSt.out.map.look [] (by decide)).1
  have hl' := show (Instr.lookup 186 (.map (some m)) (.string { data := #[] }) false).run Tryz.prog _ = _ from hl
  have hov : -9223372036854775808 ≤ atI D [] + 1 ∧ atI D [] + 1 ≤ 9223372036854775807 := by omega
  have hcc := set_at (d := df) HSt.out [] (atI D [] + 1) hov (Nat.zero_le _) hD
  have hst : str [] = { data := #[] } := rfl
  rw [hst] at hcc
  have hr := hid (show countF df [] D = setF df [] (atI D [] + 1) D from rfl)
  generalize atI D [] = x at *
  clear h hf hl
  go_wp2_with fail
  refine hcc.mono ?_
  clear hcc
  rintro e w' ⟨rfl, hS, hK⟩
  have HS := hid hS; have HK := hid ((Kept2.of_ext HEb.out).trans hK)
  clear hS hK
  go_wp2
  go_ret
  exact ⟨rfl, by rw [hr.out]; exact HS.out, HK.out⟩
def sumF (d : DefV) (e : EvV) (D : Ents) : Int × Ents :=
  if fitsN (atI D [] + (valF e.fields d.field).getD 0) = false ∧ (valF e.fields d.field).getD 0 ≠ 0 then (4, D) else (0, setF d [] (atI D [] + (valF e.fields d.field).getD 0) D)
set_option maxRecDepth 100000 in
set_option maxHeartbeats 1000000 in
theorem sumStep_at {w : World} {S : Nat → Prop} {s m : Nat} {df : DefV} {q : List ClV} {D : Ents} (h : StIs w S s m (kdVal df) q D) {A B : Option Addr} {n c k d : Nat} {e : EvV} (hev : EvS w S A n c B k d e) (hsm : SmallE e) (hD : D.length < 1000000) (hf : FitB 2305843009213693952 D) :
    Calls Tryz.prog 238 #[.agg #[.string (str df.field)], .pointer (some ⟨s, 0, none⟩), evVal A n c B k d e] w fun x w' => x = .returned (.int .i64 (sumF df e D).1) ∧ StIs w' S s m (kdVal df) q (sumF df e D).2 ∧ Kept2 s m w w' := by
  unfold evVal
  go_enter Tryz.func238, Tryz.ntmps238
  have HEa := hid (ext_alloc w (.cells #[.string (str df.field)] 215))
  have HEb := hid (Ext.trans' HEa.out (ext_alloc (w.alloc (.cells #[.string (str df.field)] 215)) (.cells #[.string (str e.st), .string (str e.ty), .slice A n c, .slice B k d] 113)))
  have HSt := hid (h.ext HEb.out)
  have Hbx := hid (show EvBox (w.heap.size + 1) A n c B k d e ((w.alloc (.cells #[.string (str df.field)] 215)).alloc (.cells #[.string (str e.st), .string (str e.ty), .slice A n c, .slice B k d] 113)) from by
    have := heap_alloc_last (w.alloc (.cells #[.string (str df.field)] 215)) (.cells #[.string (str e.st), .string (str e.ty), .slice A n c, .slice B k d] 113)
    simpa [EvBox] using this)
  have hb := atI_fit hf (by decide) []
  have hv := valF_small hsm df.field
  have Hev := hid (hev.ext HEb.out)
  obtain ⟨b0, b1, b2, b3⟩ := Hbx.out.cells
  have f0 : ((w.alloc (.cells #[.string (str df.field)] 215)).alloc (.cells #[.string (str e.st), .string (str e.ty), .slice A n c, .slice B k d] 113)).cell? ⟨w.heap.size, 0, none⟩ = some (.string (str df.field)) :=
    cell_below (ext_alloc _ _) (by rw [cell_of_row _ _ _ _ _ _ (heap_alloc_last w _)]; rfl)
  have hcc := value_at Hev.out.is df.field
  have hdf := hid (show sumF df e D = if fitsN (atI D [] + (valF e.fields df.field).getD 0) = false ∧ (valF e.fields df.field).getD 0 ≠ 0 then (4, D) else (0, setF df [] (atI D [] + (valF e.fields df.field).getD 0) D) from rfl)
  unfold evVal at hcc
  clear h hf hev
  generalize (valF e.fields df.field).isSome = vb at *
  generalize (valF e.fields df.field).getD 0 = v at *
  have hov : -9223372036854775808 ≤ atI D [] + v ∧ atI D [] + v ≤ 9223372036854775807 := by omega
  have Hov := hid hov
  go_wp2_with fail
  refine hcc.mono ?_
  clear hcc b0 b1 b2 b3 f0
  rintro x w1 ⟨rfl, hE⟩
  have HS1 := hid (HSt.out.ext hE)
  have HK1 := hid (Kept2.of_ext (d := s) (m := m) (Ext.trans' HEb.out hE))
  clear hE
  obtain ⟨-, -, -, -, c2, -⟩ := HS1.out.cells
  have hl := (HS1.out.map.look [] (by decide)).1
  have hl' := show (Instr.lookup 186 (.map (some m)) (.string { data := #[] }) false).run Tryz.prog _ = _ from hl
  clear hl
  obtain ⟨x, hx⟩ : ∃ x, x = atI D [] := ⟨_, rfl⟩
  rw [← hx] at hl' hb hov hdf
  have Hx := hid hx
  clear hx
  go_wp2_with fail
  refine (fits_at (x + v) w1).mono ?_
  rintro y w2 ⟨rfl, rfl⟩
  have hst : str [] = { data := #[] } := rfl
  have hcc := set_at (d := df) HS1.out [] (x + v) hov (Nat.zero_le _) hD
  rw [hst] at hcc
  generalize x + v = y at *
  by_cases hfit : fitsN y = false ∧ v ≠ 0
  · have hr := hid (show sumF df e D = (4, D) by rw [hdf.out, if_pos hfit])
    obtain ⟨hf1, hf2⟩ := hfit
    rw [hf1]
    clear hcc
    go_wp2
    go_ret
    exact ⟨by rw [hr.out]; rfl, by rw [hr.out]; exact HS1.out, HK1.out⟩
  · have hr := hid (show sumF df e D = (0, setF df [] y D) by rw [hdf.out, if_neg hfit])
    have hcont : ∀ (x' : Ending) (w' : World), (x' = .returned (.tuple #[]) ∧ StIs w' S s m (kdVal df) q (setF df [] y D) ∧ Kept2 s m w2 w') → Hid (StIs w' S s m (kdVal df) q (setF df [] y D)) ∧ Hid (Kept2 s m w w') := fun x' w' h => ⟨hid h.2.1, hid (HK1.out.trans h.2.2)⟩
    cases hfb : fitsN y
    · have hv0 : v = 0 := Classical.byContradiction fun h0 => hfit ⟨hfb, h0⟩
      subst hv0
      clear hfit
      go_wp2_with fail
      refine hcc.mono ?_
      clear hcc
      rintro e' w' hh
      obtain ⟨HS, HK⟩ := hcont _ _ hh
      obtain ⟨rfl, -, -⟩ := hh
      go_wp2
      go_ret
      exact ⟨by rw [hr.out]; rfl, by rw [hr.out]; exact HS.out, HK.out⟩
    · clear hfit
      go_wp2_with fail
      refine hcc.mono ?_
      clear hcc
      rintro e' w' hh
      obtain ⟨HS, HK⟩ := hcont _ _ hh
      obtain ⟨rfl, -, -⟩ := hh
      go_wp2
      go_ret
      exact ⟨by rw [hr.out]; rfl, by rw [hr.out]; exact HS.out, HK.out⟩
def latestF (d : DefV) (e : EvV) (D : Ents) : Ents := match valF e.fields d.field with
  | some v => setF d e.st v D
  | none => D
set_option maxRecDepth 100000 in
set_option maxHeartbeats 1000000 in
theorem latestStep_at {w : World} {S : Nat → Prop} {s m : Nat} {df : DefV} {q : List ClV} {D : Ents} (h : StIs w S s m (kdVal df) q D) {A B : Option Addr} {n c k d : Nat} {e : EvV} (hev : EvS w S A n c B k d e) (hsm : SmallE e) (hD : D.length < 1000000) :
    Calls Tryz.prog 242 #[.agg #[.string (str df.field)], .pointer (some ⟨s, 0, none⟩), evVal A n c B k d e] w fun x w' => x = .returned (.int .i64 0) ∧ StIs w' S s m (kdVal df) q (latestF df e D) ∧ Kept2 s m w w' := by
  unfold evVal
  go_enter Tryz.func242, Tryz.ntmps242
  have HEa := hid (ext_alloc w (.cells #[.string (str df.field)] 216))
  have HEb := hid (Ext.trans' HEa.out (ext_alloc (w.alloc (.cells #[.string (str df.field)] 216)) (.cells #[.string (str e.st), .string (str e.ty), .slice A n c, .slice B k d] 113)))
  have HSt := hid (h.ext HEb.out)
  have Hbx := hid (show EvBox (w.heap.size + 1) A n c B k d e ((w.alloc (.cells #[.string (str df.field)] 216)).alloc (.cells #[.string (str e.st), .string (str e.ty), .slice A n c, .slice B k d] 113)) from by
    have := heap_alloc_last (w.alloc (.cells #[.string (str df.field)] 216)) (.cells #[.string (str e.st), .string (str e.ty), .slice A n c, .slice B k d] 113)
    simpa [EvBox] using this)
  have hv := valF_small hsm df.field
  have Hev := hid (hev.ext HEb.out)
  obtain ⟨b0, b1, b2, b3⟩ := Hbx.out.cells
  have f0 : ((w.alloc (.cells #[.string (str df.field)] 216)).alloc (.cells #[.string (str e.st), .string (str e.ty), .slice A n c, .slice B k d] 113)).cell? ⟨w.heap.size, 0, none⟩ = some (.string (str df.field)) :=
    cell_below (ext_alloc _ _) (by rw [cell_of_row _ _ _ _ _ _ (heap_alloc_last w _)]; rfl)
  have hcc := value_at Hev.out.is df.field
  have hss := hid hev.st
  have hdf := hid (show latestF df e D = if (valF e.fields df.field).isSome = true then setF df e.st ((valF e.fields df.field).getD 0) D else D by
    unfold latestF; cases valF e.fields df.field <;> rfl)
  unfold evVal at hcc
  clear h hev
  generalize (valF e.fields df.field).isSome = vb at *
  generalize (valF e.fields df.field).getD 0 = v at *
  go_wp2_with fail
  refine hcc.mono ?_
  clear hcc b0 b1 b2 b3 f0
  rintro x w1 ⟨rfl, hE⟩
  have HS1 := hid (HSt.out.ext hE)
  have HK1 := hid (Kept2.of_ext (d := s) (m := m) (Ext.trans' HEb.out hE))
  obtain ⟨b0, -, -, -⟩ := (Hbx.out.ext hE).cells
  clear hE
  cases vb
  · have hr := hid (show latestF df e D = D from hdf.out)
    go_wp2
    go_ret
    exact ⟨rfl, by rw [hr.out]; exact HS1.out, HK1.out⟩
  · have hr := hid (show latestF df e D = setF df e.st v D from hdf.out)
    have hcc := set_at (d := df) HS1.out e.st v (by omega) hss.out hD
    go_wp2_with fail
    refine hcc.mono ?_
    clear hcc
    rintro e' w' ⟨rfl, hS, hK⟩
    have HS := hid hS; have HK := hid (HK1.out.trans hK)
    clear hS hK
    go_wp2
    go_ret
    exact ⟨rfl, by rw [hr.out]; exact HS.out, HK.out⟩
theorem membersF_snoc (d : DefV) (st t : Str) (ts : List Str) (D : Ents) : membersF d st (ts ++ [t]) D = countF d (keyF t st) (membersF d st ts D) := by
  unfold membersF; rw [List.foldl_append]; rfl
theorem countF_fit {d : DefV} {k : Str} {D : Ents} {B : Int} (h : FitB B D) (hB : 0 ≤ B) : FitB (B + 1) (countF d k D) := by
  have := atI_fit h hB k
  exact (h.le (by omega)).set (by omega)
theorem membersF_fit {d : DefV} {st : Str} : ∀ (ts : List Str) {D : Ents} {B : Int}, FitB B D → 0 ≤ B → FitB (B + ts.length) (membersF d st ts D)
  | [], D, B, h, hB => h.le (by simp)
  | t :: ts, D, B, h, hB => by
    have := membersF_fit (d := d) (st := st) ts (countF_fit (d := d) (k := keyF t st) h hB) (by omega)
    exact this.le (by simp; omega)
theorem length_membersF {d : DefV} {st : Str} : ∀ (ts : List Str) (D : Ents), (membersF d st ts D).length ≤ D.length + ts.length
  | [], D => Nat.le_refl _
  | t :: ts, D => by
    have := length_membersF (d := d) (st := st) ts (countF d (keyF t st) D)
    have h2 := length_setF d (keyF t st) (atI D (keyF t st) + 1) D
    have e : membersF d st (t :: ts) D = membersF d st ts (countF d (keyF t st) D) := rfl
    rw [e]
    simp only [List.length_cons]
    have : (countF d (keyF t st) D).length ≤ D.length + 1 := h2
    omega
set_option maxRecDepth 100000 in
set_option maxHeartbeats 1000000 in
theorem membersStep_at {w : World} {S : Nat → Prop} {s m : Nat} {df : DefV} {q : List ClV} {D : Ents} (h : StIs w S s m (kdVal df) q D) {A B : Option Addr} {n c k d : Nat} {e : EvV} (hev : EvS w S A n c B k d e) (hsm : SmallE e) (hD : D.length + 1000 < 1000000) (hf : FitB 2305843009213693952 D) :
    Calls Tryz.prog 243 #[.agg #[], .pointer (some ⟨s, 0, none⟩), evVal A n c B k d e] w fun x w' => x = .returned (.int .i64 0) ∧ StIs w' S s m (kdVal df) q (membersF df e.st e.tags D) ∧ Kept2 s m w w' := by
  unfold evVal
  go_enter Tryz.func243, Tryz.ntmps243
  have HEa := hid (ext_alloc w (.cells #[] 218))
  have HEb := hid (Ext.trans' HEa.out (ext_alloc (w.alloc (.cells #[] 218)) (.cells #[.string (str e.st), .string (str e.ty), .slice A n c, .slice B k d] 113)))
  have HSt := hid (h.ext HEb.out)
  have Hbx := hid (show EvBox (w.heap.size + 1) A n c B k d e ((w.alloc (.cells #[] 218)).alloc (.cells #[.string (str e.st), .string (str e.ty), .slice A n c, .slice B k d] 113)) from by
    have := heap_alloc_last (w.alloc (.cells #[] 218)) (.cells #[.string (str e.st), .string (str e.ty), .slice A n c, .slice B k d] 113)
    simpa [EvBox] using this)
  have Hev := hid (hev.ext HEb.out)
  have hn := hid hev.tags.1
  have hnc := hev.tags.2.1
  have hcm := hev.tags.2.2.1
  obtain ⟨b0, b1, b2, b3⟩ := Hbx.out.cells
  have Hlt := hid h.lt
  clear hev h
  have Hfit := hid hf
  clear hf
  have HK0 := hid (Kept2.of_ext (d := s) (m := m) HEb.out)
  go_wp2_with fail
  clear b0 b1 b2 b3
  go_loopw [13] (fun i wr => ∃ j : Nat, j ≤ n ∧ i = .int .i64 (j : Int) ∧ Hid (StIs wr S s m (kdVal df) q (membersF df e.st (e.tags.take j) D)) ∧ Hid (Kept2 s m w wr) ∧ Hid (EvS wr S A n c B k d e) ∧ Hid (EvBox (w.heap.size + 1) A n c B k d e wr)) (fun i _ => n - (intOf i).toNat)
  case atStart => exact ⟨0, by omega, rfl, HSt, HK0, Hev, Hbx⟩
  case round =>
    obtain ⟨j, hj, rfl, HS, HK, HV, HB⟩ := hrel
    by_cases hlt : j < n
    · have hjx : j < e.tags.length := by have := hn.out; omega
      have hlt' : (j : Int) < (n : Int) := by omega
      have hj00 : ¬ ((j : Int) < 0) := by omega
      have hj0 : (0 : Int) ≤ (j : Int) := by omega
      obtain ⟨b, o, rfl, -, f0, -⟩ := txt_at HV.out.tags j hjx
      obtain ⟨b0, b1, b2, b3⟩ := HB.out.cells
      have ht := hsm.tags _ (List.getElem_mem hjx)
      have hstl := hsm.st
      have hnx := hid (show membersF df e.st (e.tags.take (j + 1)) D = countF df (keyF e.tags[j] e.st) (membersF df e.st (e.tags.take j) D) by
        rw [← membersF_snoc, List.take_succ_eq_append_getElem hjx])
      have hlenT : (e.tags.take j).length ≤ 1000 := by have := hsm.many; rw [List.length_take]; omega
      have hlen := length_membersF (d := df) (st := e.st) (e.tags.take j) D
      have hfm := membersF_fit (d := df) (st := e.st) (e.tags.take j) Hfit.out (by decide)
      have hfa := atI_fit hfm (by omega) (keyF e.tags[j] e.st)
      have hkl : (keyF e.tags[j] e.st).length ≤ 2001 := by unfold keyF; simp only [List.length_append, List.length_cons, List.length_nil]; omega
      have hks : Short (keyF e.tags[j] e.st) := by unfold Short; omega
      have hov : -9223372036854775808 ≤ atI (membersF df e.st (e.tags.take j) D) (keyF e.tags[j] e.st) + 1 ∧ atI (membersF df e.st (e.tags.take j) D) (keyF e.tags[j] e.st) + 1 ≤ 9223372036854775807 := by omega
      have hDl : (membersF df e.st (e.tags.take j) D).length < 1000000 := by omega
      have hcc := set_at (d := df) HS.out (keyF e.tags[j] e.st) _ hov hks hDl
      have hl := (HS.out.map.look (keyF e.tags[j] e.st) hks).1
      obtain ⟨-, -, -, -, c2, -⟩ := HS.out.cells
      obtain ⟨ky, hky⟩ : ∃ ky, ky = keyF e.tags[j] e.st := ⟨_, rfl⟩
      have ad1 := run_string_add (P := Tryz.prog) (w := wr) (str e.tags[j]) (str [32]) (by rw [str_size]; omega) (by decide)
      have ad2 := run_string_add (P := Tryz.prog) (w := wr) (str e.tags[j] ++ str [32]) (str e.st) (by rw [← str_append, str_size]; simp; omega) (by rw [str_size]; omega)
      have hke : str e.tags[j] ++ str [32] ++ str e.st = str ky := by rw [hky, ← str_append, ← str_append]; rfl
      rw [hke] at ad2
      rw [← hky] at hcc hl hov hnx
      have h32 : str [32] = { data := #[32] } := rfl
      rw [h32] at ad1 ad2
      have hcf := hid (show countF df ky (membersF df e.st (e.tags.take j) D) = setF df ky (atI (membersF df e.st (e.tags.take j) D) ky + 1) (membersF df e.st (e.tags.take j) D) from rfl)
      generalize atI (membersF df e.st (e.tags.take j) D) ky = x at hcc hl hov hcf
      have HT := hid h32
      clear ht hstl hlenT hlen hfm hfa hkl hks hky hke h32 hDl
      generalize e.tags[j] = tg at *
      go_wp2_with fail
      refine hcc.mono ?_
      clear hcc
      rintro e' w' ⟨rfl, hS, hK⟩
      have HS' := hid hS; have HK' := hid (HK.out.trans hK); have HV' := hid (HV.out.kept hK HS.out.sIn HS.out.mIn)
      have HB' := hid (show EvBox (w.heap.size + 1) _ n c B k d e w' from (hK.block _ (Array.getElem?_eq_some_iff.1 HB.out).1 (by have := Hlt.out; omega) (by have := Hlt.out; omega)).trans HB.out)
      clear hS hK
      go_wp2_with fail
      go_roundw
      case rel => exact ⟨j + 1, by omega, by go_num, by rw [hnx.out, hcf.out]; exact HS', HK', HV', HB'⟩
      case measure => simp [intOf]; omega
    · obtain rfl : j = n := by omega
      have hlt' : ¬ ((j : Int) < (j : Int)) := by omega
      have hall := hid (show e.tags.take j = e.tags from List.take_of_length_le (by have := hn.out; omega))
      go_wp2
      go_ret
      exact ⟨rfl, by have := HS.out; rw [hall.out] at this; exact this, HK.out⟩
end Go.Proofs.YtakebdeldndaaaaGreatDoor

