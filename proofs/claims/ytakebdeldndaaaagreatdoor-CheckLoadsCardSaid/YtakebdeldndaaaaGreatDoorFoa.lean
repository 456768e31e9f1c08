/- Several texts of this claim's, one behind the other. -/
import Derived.Test.YtakebdeldndaaaaGreatDoorFo1
import Derived.Test.YtakebdeldndaaaaGreatDoorFound
import Derived.Test.YtakebdeldndaaaaGreatDoorEvs
import Derived.Stop.Asserts
/- A projection is made. -/
namespace Go.Proofs.YtakebdeldndaaaaGreatDoor
open Go Go.RowKit
set_option linter.unusedSimpArgs false
set_option linter.unusedVariables false
structure StIs (w : World) (S : Nat → Prop) (s m : Nat) (kv : Value) (q : List ClV) (D : Ents) : Prop where
 row : ∃ A c, w.heap[s]? = some (.cells #[kv, .slice A q.length c, .map (some m)] 188) ∧ SlR RCl w (Out S w) A q.length c q
 map : MapI w m D
 sIn : S s
 mIn : S m
 ne : s ≠ m
theorem StIs.lt {w : World} {S : Nat → Prop} {s m : Nat} {kv : Value} {q : List ClV} {D : Ents} (h : StIs w S s m kv q D) : s < w.heap.size ∧ m < w.heap.size := by
 obtain ⟨A, c, h1, -⟩ := h.row
 exact ⟨(Array.getElem?_eq_some_iff.1 h1).1, h.map.lt⟩
theorem StIs.more {w w' : World} {S S' : Nat → Prop} {s m : Nat} {kv : Value} {q : List ClV} {D : Ents} (h : StIs w S s m kv q D) (hE : Ext w w') (hS : ∀ k, S' k → S k ∨ w.heap.size ≤ k) (hs : S' s) (hm : S' m) : StIs w' S' s m kv q D := by
 obtain ⟨A, c, h1, h2⟩ := h.row
 exact ⟨⟨A, c, (hE.block s h.lt.1).trans h1, slR_more h2 hE hS⟩, h.map.ext hE, hs, hm, h.ne⟩
theorem StIs.ext {w w' : World} {S : Nat → Prop} {s m : Nat} {kv : Value} {q : List ClV} {D : Ents} (h : StIs w S s m kv q D) (hE : Ext w w') : StIs w' S s m kv q D := h.more hE (fun _ hk => .inl hk) h.sIn h.mIn
theorem StIs.kept {w w' : World} {S : Nat → Prop} {s m a b : Nat} {kv : Value} {q : List ClV} {D : Ents} (h : StIs w S s m kv q D) (hk : Kept2 a b w w') (ha : S a) (hb : S b) (h1 : s ≠ a) (h2 : s ≠ b) (h3 : m ≠ a) (h4 : m ≠ b) : StIs w' S s m kv q D := by
 obtain ⟨A, c, hr, hq⟩ := h.row
 exact ⟨⟨A, c, (hk.block s h.lt.1 h1 h2).trans hr, slR_kept hq hk ha hb⟩, h.map.keep (hk.block m h.lt.2 h3 h4), h.sIn, h.mIn, h.ne⟩
structure StNew (w : World) (n0 s m : Nat) (kv : Value) (q : List ClV) (D : Ents) : Prop where
 row : ∃ A c, w.heap[s]? = some (.cells #[kv, .slice A q.length c, .map (some m)] 188) ∧ SlR RCl w (fun k => (n0 ≤ k ∧ k < w.heap.size) ∧ k ≠ s ∧ k ≠ m) A q.length c q
 map : MapI w m D
 ne : s ≠ m
theorem StNew.lt {w : World} {n0 s m : Nat} {kv : Value} {q : List ClV} {D : Ents} (h : StNew w n0 s m kv q D) : s < w.heap.size ∧ m < w.heap.size := by
 obtain ⟨A, c, h1, -⟩ := h.row
 exact ⟨(Array.getElem?_eq_some_iff.1 h1).1, h.map.lt⟩
theorem StNew.ext {w w' : World} {n0 s m : Nat} {kv : Value} {q : List ClV} {D : Ents} (h : StNew w n0 s m kv q D) (hE : Ext w w') : StNew w' n0 s m kv q D := by
 obtain ⟨A, c, h1, h2⟩ := h.row
 exact ⟨⟨A, c, (hE.block s h.lt.1).trans h1, (h2.ext fun k hk => hE.block k hk.1.2).mono fun k hk => ⟨⟨hk.1.1, Nat.lt_of_lt_of_le hk.1.2 hE.size⟩, hk.2⟩⟩, h.map.ext hE, h.ne⟩
theorem StNew.is {w : World} {S : Nat → Prop} {n0 s m : Nat} {kv : Value} {q : List ClV} {D : Ents} (h : StNew w n0 s m kv q D) (hS : ∀ k, S k → k < n0 ∨ k = s ∨ k = m) (hs : S s) (hm : S m) : StIs w S s m kv q D := by
 obtain ⟨A, c, h1, h2⟩ := h.row
 exact ⟨⟨A, c, h1, h2.mono fun k hk => ⟨hk.1.2, fun h' => by rcases hS k h' with h | h | h <;> omega⟩⟩, h.map, hs, hm, h.ne⟩
theorem StNew.from {w : World} {n0 n1 s m : Nat} {kv : Value} {q : List ClV} {D : Ents} (h : StNew w n0 s m kv q D) (hn : n1 ≤ n0) : StNew w n1 s m kv q D := by
 obtain ⟨A, c, h1, h2⟩ := h.row
 exact ⟨⟨A, c, h1, h2.mono fun k hk => ⟨⟨Nat.le_trans hn hk.1.1, hk.1.2⟩, hk.2⟩⟩, h.map, h.ne⟩
def pM (n0 : Nat) : SPred := ⟨fun v W => ∃ m, v = .map (some m) ∧ n0 ≤ m ∧ MapI W m [], fun _ _ _ ⟨m, e, h1, h2⟩ hE => ⟨m, e, h1, h2.ext hE⟩⟩
def pQ (n0 n : Nat) (q : List ClV) : SPred := ⟨fun v W => ∃ A c, v = .agg #[.slice A n c] ∧ SlR RCl W (Yg n0 W) A n c q, fun _ _ _ ⟨A, c, e, h⟩ hE => ⟨A, c, e, yg_keep h (.of_ext hE)⟩⟩
def IsRow (w : World) (k : Nat) : Prop := ∃ cs t f, w.heap[k]? = some (.cells cs t f)
theorem isRow_of_cell {w : World} {b o : Nat} {v : Value} (h : w.cell? ⟨b, o, none⟩ = some v) : IsRow w b := by
 unfold World.cell? at h
 simp only at h
 split at h
 ·rename_i cs t f hh; exact ⟨_, _, _, hh⟩
 ·cases h
theorem RK.rows {w : World} {K : Nat → Prop} {A : Option Addr} {cs : List Value} (h : RK w K A cs) : RK w (fun k => K k ∧ IsRow w k) A cs := by
 rcases h with h | ⟨b, o, e, kb, h⟩
 ·exact .inl h
 ·cases cs with
  | nil => exact .inl rfl
  | cons v l => exact .inr ⟨b, o, e, ⟨kb, isRow_of_cell (h 0 v rfl)⟩, h⟩
theorem txt_rows {w : World} {K : Nat → Prop} {A : Option Addr} {n c : Nat} {xs : List Str} (h : SlR Rep.txt w K A n c xs) : SlR Rep.txt w (fun k => K k ∧ IsRow w k) A n c xs := by
 have hs := h.short
 obtain ⟨h1, h2, h3, cs, hr, hv⟩ := h
 have e := rows_txt_eq hr
 subst e
 exact ⟨h1, h2, h3, _, rows_txt hs, hv.rows⟩
theorem cl_rows {w : World} {K : Nat → Prop} : ∀ {xs : List ClV} {cs : List Value}, Rows RCl w K xs cs → Rows RCl w (fun k => K k ∧ IsRow w k) xs cs
 | [], _, h => h
 | x :: xs, _, ⟨c, r, e, hc, hr⟩ => by
  obtain ⟨A, a, B, b, rfl, h1, h2⟩ := cl_rel hc
  exact ⟨_, r, e, cl_mk (txt_rows h1) (txt_rows h2), cl_rows hr⟩
theorem cls_rows {w : World} {K : Nat → Prop} {A : Option Addr} {n c : Nat} {xs : List ClV} (h : SlR RCl w K A n c xs) : SlR RCl w (fun k => K k ∧ IsRow w k) A n c xs := by
 obtain ⟨h1, h2, h3, cs, hr, hv⟩ := h
 exact ⟨h1, h2, h3, cs, cl_rows hr, hv.rows⟩
theorem MapI.not_row {w : World} {m : Nat} {D : Ents} (h : MapI w m D) : ¬ IsRow w m := by
 rintro ⟨cs, t, f, e⟩
 obtain ⟨es, clock, h1, -⟩ := h
 rw [h1] at e; cases e
def pB (n0 n : Nat) (d : DefV) : SPred := ⟨fun v W => ∃ A c m, v = .agg #[kdVal d, .slice A n c, .map (some m)] ∧ SlR RCl W (Yg n0 W) A n c d.q ∧ n0 ≤ m ∧ MapI W m [],
 fun _ _ _ ⟨A, c, m, e, h1, h2, h3⟩ hE => ⟨A, c, m, e, yg_keep h1 (.of_ext hE), h2, h3.ext hE⟩⟩
def pP (n0 : Nat) (d : DefV) : SPred := ⟨fun v W => ∃ s m, v = .pointer (some ⟨s, 0, none⟩) ∧ n0 ≤ s ∧ n0 ≤ m ∧ StNew W n0 s m (kdVal d) d.q [], fun _ _ _ ⟨s, m, e, h1, h2, h3⟩ hE => ⟨s, m, e, h1, h2, h3.ext hE⟩⟩
theorem st_made {W : World} {n0 n c m : Nat} {A : Option Addr} {d : DefV} (h1 : SlR RCl W (Yg n0 W) A n c d.q) (h3 : MapI W m []) : StNew (W.alloc (.cells #[kdVal d, .slice A n c, .map (some m)] 188)) n0 W.heap.size m (kdVal d) d.q [] := by
 have hE := ext_alloc W (.cells #[kdVal d, .slice A n c, .map (some m)] 188)
 have hn : n = d.q.length := h1.1
 subst hn
 have hml := h3.lt
 refine ⟨⟨A, c, heap_alloc_last _ _, ?_⟩, h3.ext hE, by omega⟩
 have h1' := cls_rows h1
 refine (h1'.ext fun k hk => hE.block k hk.1.2).mono fun k hk => ⟨⟨hk.1.1, Nat.lt_of_lt_of_le hk.1.2 hE.size⟩, ?_, ?_⟩
 ·have := hk.1.2; omega
 ·rintro rfl
  exact h3.not_row hk.2
theorem kd_cell (d : DefV) : ∃ t u, kdVal d = .iface t u := by
 unfold kdVal
 split
 ·exact ⟨_, _, rfl⟩
 ·split
  ·exact ⟨_, _, rfl⟩
  ·split <;> exact ⟨_, _, rfl⟩
set_option maxRecDepth 100000 in
set_option maxHeartbeats 4000000 in
theorem foldNew_at {w : World} {A : Option Addr} {n c : Nat} {d : DefV} (h : SlR RCl w (· < w.heap.size) A n c d.q) :
  Calls Tryz.prog 82 #[defVal d A n c] w fun e w' => Ext w w' ∧ ((mayDef d ≠ 0 ∧ e = .returned (.tuple #[.pointer none, .int .i64 (mayDef d)])) ∨
   (mayDef d = 0 ∧ ∃ s m, e = .returned (.tuple #[.pointer (some ⟨s, 0, none⟩), .int .i64 0]) ∧ w.heap.size ≤ s ∧ w.heap.size ≤ m ∧ StNew w' w.heap.size s m (kdVal d) d.q [])) := by
 have hv := hid (show defVal d A n c = .agg #[.int .i64 d.kind, .string (str d.field), .slice A n c] from rfl)
 rw [hv.out]
 have H := hid h
 clear h
 have HE0 := hid (ext_alloc w (.cells #[.int .i64 d.kind, .string (str d.field), .slice A n c] 72))
 have Hbx := hid (show DefBox w.heap.size d A n c (w.alloc (.cells #[.int .i64 d.kind, .string (str d.field), .slice A n c] 72)) from heap_alloc_last _ _)
 obtain ⟨b0, b1, b2⟩ := Hbx.out.cells
 have hmd := mayDef_at (H.out.grow HE0.out)
 rw [hv.out] at hmd
 go_enter Tryz.func82, Tryz.ntmps82
 go_wp2_with fail
 refine hmd.mono ?_
 rintro e w1 ⟨rfl, hE⟩
 have HE1 := hid (Ext.trans' HE0.out hE)
 have Hb1 := hid (Hbx.out.ext hE)
 clear hE hmd b0 b1 b2
 by_cases hm : mayDef d = 0
 rotate_left
 ·have HmO := hid hm
  obtain ⟨x, hx⟩ : ∃ x, x = mayDef d := ⟨_, rfl⟩
  have Hme := hid hx.symm
  rw [← hx] at hm ⊢
  clear hx
  go_wp2
  go_ret2
  exact ⟨HE1.out, .inl ⟨HmO.out, by rw [Hme.out]; rfl⟩⟩
 have Hm := hid hm
 have Hq := hid (show mayQ d.q = 0 by
  unfold mayDef at hm
  split at hm
  ·cases hm
  split at hm
  ·rename_i h1 h2; exact absurd hm h2
  ·rename_i h1 h2; exact Classical.byContradiction fun e => h2 e)
 rw [hm]
 clear hm
 go_wp2_with fail
 obtain ⟨n0, hn0⟩ : ∃ n0, n0 = w1.heap.size := ⟨_, rfl⟩
 have Hn0 := hid hn0
 clear hn0
 apply wp_drawn [isV _, isV (kdVal d), isV _, isV _, pQ n0 n d.q, pM n0, pB n0 n d, pP n0 d, pP n0 d, isV _] (by kernel_rfl)
 ·kernel_rfl
 ·refine ⟨?nws0, ?nws1, ?nws2, ?nws3, ?nws4, ?nws5, ?nws6, ?nws7, ?nws8, ?nws9, trivial⟩
  case nws0 =>
   intro v W hE hd; simp only [Region.wanted, ↓reduceIte]; (try simp [deps, waitsOn, Region.binds, knowing, isV, ownsV, anyV] at hd); simp only [putAll, List.take_succ_cons, List.take_zero, List.drop_succ_cons, List.drop_zero, Act.put, List.setIfInBounds_toArray, List.set_cons_zero, List.set_cons_succ, Nat.zero_add, Nat.reduceAdd]
   obtain ⟨e0, e1, e2⟩ := (Hb1.out.ext hE).cells
   go_simp
   exact ⟨Below.refl _ _, rfl⟩
  case nws1 =>
   intro v W hE hd; simp only [Region.wanted, ↓reduceIte]; (try simp [deps, waitsOn, Region.binds, knowing, isV, ownsV, anyV] at hd); simp only [putAll, List.take_succ_cons, List.take_zero, List.drop_succ_cons, List.drop_zero, Act.put, List.setIfInBounds_toArray, List.set_cons_zero, List.set_cons_succ, Nat.zero_add, Nat.reduceAdd]
   go_simp
   have hcc := folders_at (w := W) (A := A) (n := n) (c := c) (d := d)
   rw [hv.out] at hcc
   refine hcc.mono ?_
   rintro e w' ⟨rfl, hE2⟩
   have HE2 := hid hE2
   clear hE2 hcc
   obtain ⟨t, u, hk⟩ := kd_cell d
   rw [hk]
   go_simp
   exact ⟨HE2.out, rfl⟩
  case nws2 =>
   intro v W hE hd; simp only [Region.wanted, ↓reduceIte]; (try simp [deps, waitsOn, Region.binds, knowing, isV, ownsV, anyV] at hd); simp only [putAll, List.take_succ_cons, List.take_zero, List.drop_succ_cons, List.drop_zero, Act.put, List.setIfInBounds_toArray, List.set_cons_zero, List.set_cons_succ, Nat.zero_add, Nat.reduceAdd]; go_simp; exact ⟨Below.refl _ _, rfl⟩
  case nws3 =>
   intro v W hE hd; simp only [Region.wanted, ↓reduceIte]; (try simp [deps, waitsOn, Region.binds, knowing, isV, ownsV, anyV] at hd); simp only [putAll, List.take_succ_cons, List.take_zero, List.drop_succ_cons, List.drop_zero, Act.put, List.setIfInBounds_toArray, List.set_cons_zero, List.set_cons_succ, Nat.zero_add, Nat.reduceAdd]
   obtain ⟨e0, e1, e2⟩ := (Hb1.out.ext hE).cells
   go_simp
   exact ⟨Below.refl _ _, rfl⟩
  case nws4 =>
   intro v W hE hd; simp only [Region.wanted, ↓reduceIte]; (try simp [deps, waitsOn, Region.binds, knowing, isV, ownsV, anyV] at hd); simp only [putAll, List.take_succ_cons, List.take_zero, List.drop_succ_cons, List.drop_zero, Act.put, List.setIfInBounds_toArray, List.set_cons_zero, List.set_cons_succ, Nat.zero_add, Nat.reduceAdd]
   go_simp
   refine (norm_at (H.out.grow (Ext.trans' HE1.out hE)) Hq.out).mono ?_
   rintro e w' ⟨A', c', rfl, hS, hE2⟩
   have HS := hid hS; have HE2 := hid hE2
   have Hsz := hid hE.size
   clear hE2 hS
   go_simp
   exact ⟨HE2.out, A', c', rfl, HS.out.mono fun k hk => ⟨by have := hk.1; have := Hsz.out; have := Hn0.out; omega, hk.2⟩⟩
  case nws5 =>
   intro v W hE hd; simp only [Region.wanted, ↓reduceIte]; (try simp [deps, waitsOn, Region.binds, knowing, isV, ownsV, anyV] at hd); simp only [putAll, List.take_succ_cons, List.take_zero, List.drop_succ_cons, List.drop_zero, Act.put, List.setIfInBounds_toArray, List.set_cons_zero, List.set_cons_succ, Nat.zero_add, Nat.reduceAdd]
   have Hsz := hid hE.size
   have hmk := run_makeMap (P := Tryz.prog) 186 W
   go_simp
   exact ⟨ext_alloc _ _, W.heap.size, rfl, by rw [Hn0.out]; exact Hsz.out, MapI.made W⟩
  case nws6 =>
   intro v W hE hd; simp only [Region.wanted, ↓reduceIte]; (try simp [deps, waitsOn, Region.binds, knowing, isV, ownsV, anyV] at hd); simp only [putAll, List.take_succ_cons, List.take_zero, List.drop_succ_cons, List.drop_zero, Act.put, List.setIfInBounds_toArray, List.set_cons_zero, List.set_cons_succ, Nat.zero_add, Nat.reduceAdd]
   obtain ⟨h1, ⟨A', c', h4, hS⟩, ⟨m, h5, hm0, hM⟩⟩ := hd
   have HS := hid hS; have HM := hid hM
   clear hS hM
   rw [h1, h4, h5]
   obtain ⟨t, u, hk⟩ := kd_cell d
   have Hk := hid hk
   rw [hk]
   go_simp
   refine ⟨Below.refl _ _, A', c', m, ?_, HS.out, hm0, HM.out⟩
   rw [Hk.out]
  case nws7 =>
   intro v W hE hd; simp only [Region.wanted, ↓reduceIte]; (try simp [deps, waitsOn, Region.binds, knowing, isV, ownsV, anyV] at hd); simp only [putAll, List.take_succ_cons, List.take_zero, List.drop_succ_cons, List.drop_zero, Act.put, List.setIfInBounds_toArray, List.set_cons_zero, List.set_cons_succ, Nat.zero_add, Nat.reduceAdd]
   obtain ⟨A', c', m, h6, hS, hm0, hM⟩ := hd
   have Hst := hid (st_made (d := d) hS hM)
   have Hsz := hid hE.size
   clear hS hM
   rw [h6]
   obtain ⟨t, u, hk⟩ := kd_cell d
   rw [hk] at Hst ⊢
   go_simp
   exact ⟨ext_alloc _ _, W.heap.size, m, rfl, by have := Hsz.out; have := Hn0.out; omega, hm0, by rw [hk]; exact Hst.out⟩
  case nws8 =>
   intro v W hE hd; simp only [Region.wanted, ↓reduceIte]; (try simp [deps, waitsOn, Region.binds, knowing, isV, ownsV, anyV] at hd); simp only [putAll, List.take_succ_cons, List.take_zero, List.drop_succ_cons, List.drop_zero, Act.put, List.setIfInBounds_toArray, List.set_cons_zero, List.set_cons_succ, Nat.zero_add, Nat.reduceAdd]
   obtain ⟨s, m, h7, hs0, hm0, hSt⟩ := hd.1
   have HSt := hid hSt
   clear hSt
   rw [h7]
   go_simp
   exact ⟨Below.refl _ _, s, m, rfl, hs0, hm0, HSt.out⟩
  case nws9 =>
   intro v W hE hd; simp only [Region.wanted, ↓reduceIte]; (try simp [deps, waitsOn, Region.binds, knowing, isV, ownsV, anyV] at hd); simp only [putAll, List.take_succ_cons, List.take_zero, List.drop_succ_cons, List.drop_zero, Act.put, List.setIfInBounds_toArray, List.set_cons_zero, List.set_cons_succ, Nat.zero_add, Nat.reduceAdd]; go_simp; exact ⟨Below.refl _ _, rfl⟩
 ·rintro v W9 hE ⟨-, -, -, -, -, -, -, -, e8, e9, -⟩
  have e8 := (show _ from e8)
  have e9 := (show v 9 = _ from e9)
  simp only [putAll, List.take_succ_cons, List.take_zero, List.drop_succ_cons, List.drop_zero, Act.put, List.setIfInBounds_toArray, List.set_cons_zero, List.set_cons_succ, Nat.zero_add, Nat.reduceAdd]
  obtain ⟨s, m, h8, hs0, hm0, hSt⟩ := e8
  have h9 : v 9 = .int .i64 0 := e9
  have HSt := hid hSt
  rw [h8, h9]
  clear e8 e9 hSt
  have HE9 := hid (Ext.trans' HE1.out hE)
  go_wp2
  go_ret2
  exact ⟨HE9.out, .inr ⟨Hm.out, s, m, rfl, by have := HE1.out.size; have := Hn0.out; omega, by have := HE1.out.size; have := Hn0.out; omega, HSt.out.from (by have := HE1.out.size; have := Hn0.out; omega)⟩⟩
end Go.Proofs.YtakebdeldndaaaaGreatDoor
/- A projection's state: keeps, set, fits. -/
namespace Go.Proofs.YtakebdeldndaaaaGreatDoor
open Go Go.RowKit
set_option linter.unusedSimpArgs false
set_option linter.unusedVariables false
def fitsN (n : Int) : Bool := decide (-1125899906842624 ≤ n ∧ n ≤ 1125899906842624)
theorem StIs.cells {w : World} {S : Nat → Prop} {s m : Nat} {kv : Value} {q : List ClV} {D : Ents} (h : StIs w S s m kv q D) :
  ∃ A c, w.cell? ⟨s, 0, none⟩ = some kv ∧ w.cell? ⟨s, 1, none⟩ = some (.slice A q.length c) ∧ w.cell? ⟨s, 2, none⟩ = some (.map (some m)) ∧ SlR RCl w (Out S w) A q.length c q := by
 obtain ⟨A, c, hr, hq⟩ := h.row
 refine ⟨A, c, ?_, ?_, ?_, hq⟩ <;> · rw [cell_of_row _ _ _ _ _ _ hr]; rfl
theorem fits_at (n : Int) (w : World) : Calls Tryz.prog 153 #[.int .i64 n] w fun e w' => e = .returned (.bool (fitsN n)) ∧ w' = w := by
 go_enter Tryz.func153, Tryz.ntmps153
 by_cases h1 : -1125899906842624 ≤ n
 ·by_cases h2 : n ≤ 1125899906842624
  ·have hr := hid (show fitsN n = true from decide_eq_true ⟨h1, h2⟩)
   go_wp2
   go_ret
   exact ⟨by rw [hr.out]; rfl, rfl⟩
  ·have hr := hid (show fitsN n = false from decide_eq_false fun h => h2 h.2)
   go_wp2
   go_ret
   exact ⟨by rw [hr.out]; rfl, rfl⟩
 ·have hr := hid (show fitsN n = false from decide_eq_false fun h => h1 h.1)
  go_wp2
  go_ret
  exact ⟨by rw [hr.out]; rfl, rfl⟩
set_option maxRecDepth 100000 in
theorem keeps_at {w : World} {S : Nat → Prop} {s m : Nat} {d : DefV} {q : List ClV} {D : Ents} (h : StIs w S s m (kdVal d) q D) :
  Calls Tryz.prog 154 #[.pointer (some ⟨s, 0, none⟩)] w fun e w' => e = .returned (.bool (decide (d.kind = 3))) ∧ w' = w := by
 obtain ⟨A, c, c0, -, -, -⟩ := h.cells
 clear h
 unfold kdVal at c0
 go_enter Tryz.func154, Tryz.ntmps154
 by_cases h2 : d.kind = 2
 ·rw [if_pos h2] at c0
  have hr := hid (show decide (d.kind = 3) = false from decide_eq_false (by omega))
  have ha := run_typeAssert_lacksB (z := .nilIface) Tryz.underlying242 (t := 215) (by kernel_rfl) (by kernel_rfl) (.agg #[.string (str d.field)]) 183 w
  clear h2
  go_wp2
  go_ret
  exact ⟨by rw [hr.out]; rfl, rfl⟩
 by_cases h3 : d.kind = 3
 ·rw [if_neg h2, if_pos h3] at c0
  have hr := hid (show decide (d.kind = 3) = true from decide_eq_true h3)
  have ha := run_typeAssert_hasB Tryz.underlying242 (t := 216) (by kernel_rfl) (.agg #[.string (str d.field)]) 183 w
  clear h2 h3
  go_wp2
  go_ret
  exact ⟨by rw [hr.out]; rfl, rfl⟩
 have hr := hid (show decide (d.kind = 3) = false from decide_eq_false h3)
 by_cases h4 : d.kind = 4
 ·rw [if_neg h2, if_neg h3, if_pos h4] at c0
  have ha := run_typeAssert_lacksB (z := .nilIface) Tryz.underlying242 (t := 218) (by kernel_rfl) (by kernel_rfl) (.agg #[]) 183 w
  clear h2 h3 h4
  go_wp2
  go_ret
  exact ⟨by rw [hr.out]; rfl, rfl⟩
 ·rw [if_neg h2, if_neg h3, if_neg h4] at c0
  have ha := run_typeAssert_lacksB (z := .nilIface) Tryz.underlying242 (t := 219) (by kernel_rfl) (by kernel_rfl) (.agg #[]) 183 w
  clear h2 h3 h4
  go_wp2
  go_ret
  exact ⟨by rw [hr.out]; rfl, rfl⟩
end Go.Proofs.YtakebdeldndaaaaGreatDoor
/- What each kind does with an event. -/
namespace Go.Proofs.YtakebdeldndaaaaGreatDoor
open Go Go.RowKit
set_option linter.unusedSimpArgs false
set_option linter.unusedVariables false
def FitB (B : Int) (D : Ents) : Prop := ∀ p ∈ D, -B ≤ p.2 ∧ p.2 ≤ B
end Go.Proofs.YtakebdeldndaaaaGreatDoor
