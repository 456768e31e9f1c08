/- Several texts of this claim's, one behind the other. -/
import Derived.Test.YtakebdeldndaaaaGreatDoorFoa
import Derived.Handy
import Derived.Test.YtakebdeldndaaaaGreatDoorFound
import Derived.Test.YtakebdeldndaaaaGreatDoorIter
import Derived.Test.YtakebdeldndaaaaGreatDoorEvx
/- A record is folded. -/
namespace Go.Proofs.YtakebdeldndaaaaGreatDoor
open Go Go.RowKit
set_option linter.unusedSimpArgs false
set_option linter.unusedVariables false
end Go.Proofs.YtakebdeldndaaaaGreatDoor
/- Entries are loaded. Printed by wip/tools/gen_load.py. -/
namespace Go.Proofs.YtakebdeldndaaaaGreatDoor
open Go Go.RowKit
set_option linter.unusedSimpArgs false
set_option linter.unusedVariables false
def gE (l : Ents) (j : Nat) : Str × Int := (l[j]?).getD ([], 0)
def badE (d : DefV) (l : Ents) (j : Nat) : Bool := (decide (0 < j) && !bytesBefore (gE l (j - 1)).1 (gE l j).1) || !fitsN (gE l j).2 || (decide ((gE l j).2 = 0) && decide (d.kind ≠ 3))
def okE (d : DefV) (l : Ents) : Bool := (List.range l.length).all fun j => !badE d l j
def putsI (l : Ents) : Ents := l.foldl (fun D p => putI p.1 p.2 D) []
theorem putsI_snoc (l : Ents) (p : Str × Int) : putsI (l ++ [p]) = putI p.1 p.2 (putsI l) := by unfold putsI; rw [List.foldl_append]; rfl
theorem length_putsI (l : Ents) : (putsI l).length ≤ l.length := by
 have h : ∀ (l D : Ents), (l.foldl (fun D p => putI p.1 p.2 D) D).length ≤ D.length + l.length := fun l => by
  induction l with
  | nil => intro D; exact Nat.le_refl _
  | cons p l ih =>
   intro D
   have h1 := ih (putI p.1 p.2 D)
   have h2 := length_putI p.1 p.2 D
   simp only [List.foldl_cons, List.length_cons]
   omega
 have := h l []
 simpa [putsI] using this
theorem okE_no {d : DefV} {l : Ents} {j : Nat} (hj : j < l.length) (h : badE d l j = true) : okE d l = false := by
 rw [okE, List.all_eq_false]
 exact ⟨j, List.mem_range.2 hj, by rw [h]; decide⟩
theorem okE_yes {d : DefV} {l : Ents} (h : ∀ j, j < l.length → badE d l j = false) : okE d l = true := by
 rw [okE, List.all_eq_true]
 intro j hj
 rw [h j (List.mem_range.1 hj)]; rfl
theorem StIs.setMap {w : World} {S : Nat → Prop} {s m m' : Nat} {kv : Value} {q : List ClV} {D D' : Ents} (h : StIs w S s m kv q D) (hM : MapI w m' D') (hm : S m') (hne : s ≠ m') : StIs (w.setCell ⟨s, 2, none⟩ (.map (some m'))) S s m' kv q D' := by
 obtain ⟨A, c, h1, h2⟩ := h.row
 have hk : Kept2 s s w (w.setCell ⟨s, 2, none⟩ (.map (some m'))) := ⟨rfl, rfl, rfl, by simp, fun k hk h1 _ => heap_setCell_other w ⟨s, 2, none⟩ k _ (fun e => h1 e)⟩
 exact ⟨⟨A, c, heap_setCell_row h1 _, slR_kept h2 hk h.sIn h.sIn⟩, hM.keep (hk.block m' hM.lt (fun e => hne e.symm) (fun e => hne e.symm)), h.sIn, hm, hne⟩
theorem StIs.free {w : World} {S : Nat → Prop} {s m : Nat} {kv : Value} {q : List ClV} {D : Ents} (h : StIs w S s m kv q D) (o : Nat) : w.frozen? ⟨s, o, none⟩ = false := by
 obtain ⟨A, c, h1, -⟩ := h.row
 unfold World.frozen?
 dsimp only
 rw [h1]; rfl
theorem below_turned {w W w' : World} {m : Nat} (h : Ext w W) (t : W.mapTurned w' m) (hm : w.heap.size ≤ m) : Ext w w' :=
 h.trans ((Kept2.of_grown (d := m) t.grown (.inr rfl)).below hm hm h.size)
theorem store_in {w : World} {m : Nat} {D : Ents} (h : MapI w m D) {nm : Str} {v : Int} (hn : Short nm) (hv : -9223372036854775808 ≤ v ∧ v ≤ 9223372036854775807) (hD : D.length < 1000000) :
  ∃ w', (Instr.mapUpdate 186 (.map (some m)) (.string (str nm)) (.int .i64 v)).run Tryz.prog w = .ok () w' ∧ Hid (MapI w' m (putI nm v D)) ∧ Hid (w.mapTurned w' m) := by
 obtain ⟨w', h1, h2, h3⟩ := h.store nm v hv hn hD
 exact ⟨w', h1, hid h2, hid h3⟩
theorem gE_at {l : Ents} {j : Nat} (h : j < l.length) : gE l j = l[j] := by unfold gE; rw [List.getElem?_eq_getElem h]; rfl
def loadF (d : DefV) (l D : Ents) : Ents := if okE d l = true then putsI l else D
def loadE (d : DefV) (l : Ents) : Int := if okE d l = true then 0 else 1
structure Loaded (w : World) (S : Nat → Prop) (s m : Nat) (df : DefV) (q : List ClV) (D l : Ents) (w' : World) : Prop where
 st : ∃ m', (m' = m ∨ w.heap.size ≤ m') ∧ StIs w' (fun k => S k ∨ k = m') s m' (kdVal df) q (loadF df l D)
 kept : Kept2 s s w w'
set_option maxRecDepth 100000 in
set_option maxHeartbeats 8000000 in
theorem load_at {w : World} {S : Nat → Prop} {s m : Nat} {df : DefV} {q : List ClV} {D : Ents} (h : StIs w S s m (kdVal df) q D) {A : Option Addr} {n c : Nat} {l : Ents} (hl : SlR REnt w (Out S w) A n c l) (hlen : l.length < 1000000) (hint : ∀ p ∈ l, -9223372036854775808 ≤ p.2 ∧ p.2 ≤ 9223372036854775807) :
  Calls Tryz.prog 121 #[.pointer (some ⟨s, 0, none⟩), .slice A n c] w fun x w' => x = .returned (.int .i64 (loadE df l)) ∧ Loaded w S s m df q D l w' := by
 have hn := hid hl.1
 have hnc := hl.2.1
 have hcm := hl.2.2.1
 have HSt := hid h
 have HL := hid hl
 have Hlen := hid hlen
 have Hint := hid hint
 have Hlt := hid h.lt
 have hst := str_toList
 clear h hl hint
 have HNO := hid (show ∀ W, Ext w W → okE df l = false → Ending.returned (.int .i64 1) = .returned (.int .i64 (loadE df l)) ∧ Loaded w S s m df q D l W from fun W hE ho => by
  refine ⟨by unfold loadE; rw [ho]; rfl, ⟨m, .inl rfl, ?_⟩, Kept2.of_ext hE⟩
  have e : loadF df l D = D := by unfold loadF; rw [ho]; rfl
  rw [e]
  exact HSt.out.more hE (fun k hk => .inl (hk.elim id fun e => e ▸ HSt.out.mIn)) (.inl HSt.out.sIn) (.inr rfl))
 go_enter Tryz.func121, Tryz.ntmps121
 have hmk := run_makeMap (P := Tryz.prog) 186 w
 have HEm := hid (ext_alloc w (.map #[] 0))
 have HMm := hid (show MapI (w.alloc (.map #[] 0)) w.heap.size (putsI (l.take 0)) from MapI.made w)
 go_wp2_with fail
 clear hmk
 go_loopw [11] (fun i wr => ∃ k : Nat, k ≤ n ∧ i = .int .i64 (k : Int) ∧ Hid (Ext w wr) ∧ Hid (MapI wr w.heap.size (putsI (l.take k))) ∧ Hid (∀ j, j < k → badE df l j = false)) (fun i _ => n - (intOf i).toNat)
 case atStart => exact ⟨0, by omega, rfl, HEm, HMm, hid fun j hj => by omega⟩
 case round =>
  obtain ⟨k, hk, rfl, HEr, HMr, HN⟩ := hrel
  by_cases hlt : k < n
  ·have hkx : k < l.length := by have := hn.out; omega
   have hlt' : (k : Int) < (n : Int) := by omega
   have hk00 : ¬ ((k : Int) < 0) := by omega
   have hk0 : (0 : Int) ≤ (k : Int) := by omega
   have HSr := hid (HSt.out.ext HEr.out)
   have HLr := hid ((slR_out HL.out).grow HEr.out)
   obtain ⟨b, o, rfl, -, f0, f1, hsk⟩ := field_at HLr.out k hkx
   have Hkey := hid hsk
   have Hval := hid (Hint.out _ (List.getElem_mem hkx))
   have Hnx := hid (show putsI (l.take (k + 1)) = putI l[k].1 l[k].2 (putsI (l.take k)) by rw [List.take_succ_eq_append_getElem hkx, putsI_snoc])
   have Hplen := hid (show (putsI (l.take k)).length < 1000000 by
    have := length_putsI (l.take k); rw [List.length_take] at this; have := Hlen.out; omega)
   have Hbe := hid (show badE df l k = ((decide (0 < k) && !bytesBefore (gE l (k - 1)).1 l[k].1) || !fitsN l[k].2 || (decide (l[k].2 = 0) && decide (df.kind ≠ 3))) by unfold badE; rw [gE_at hkx])
   have HF1 := hid (show 0 < k → ∃ y, gE l (k - 1) = y ∧ wr.cell? ⟨b, o + (k - 1) * 2, none⟩ = some (.string (str y.1)) from fun h0 => by
    obtain ⟨b2, o2, e2, -, g0, -, -⟩ := field_at HLr.out (k - 1) (by omega)
    simp only [Option.some.injEq, Addr.mk.injEq, and_true] at e2
    obtain ⟨rfl, rfl⟩ := e2
    exact ⟨_, gE_at (by omega), g0⟩)
   have hNk : ∀ j, j < k + 1 → j = k ∨ j < k := fun j hj => by omega
   have HNk := hid hNk
   clear hsk hNk
   have Hm := hid (Nat.le_refl w.heap.size)
   generalize l[k].1 = ky at *
   generalize l[k].2 = vl at *
   have HEb := hid (ext_alloc wr (.cells #[.string (str ky), .int .i64 vl] 150))
   have Fk := hid (show (wr.alloc (.cells #[.string (str ky), .int .i64 vl] 150)).cell? ⟨wr.heap.size, 0, none⟩ = some (.string (str ky)) by rw [cell_of_row _ _ _ _ _ _ (heap_alloc_last wr _)]; rfl)
   have Fv := hid (show (wr.alloc (.cells #[.string (str ky), .int .i64 vl] 150)).cell? ⟨wr.heap.size, 1, none⟩ = some (.int .i64 vl) by rw [cell_of_row _ _ _ _ _ _ (heap_alloc_last wr _)]; rfl)
   have hg1 : 0 < k → IntKind.i64.wrap ((k : Int) - 1) = (k : Int) - 1 ∧ (1 : Int) ≤ (k : Int) ∧ (k : Int) - 1 < (n : Int) ∧ ((k : Int) - 1).toNat = k - 1 := fun h0 => ⟨by rw [IntKind.wrap_i64]; omega, by omega, by omega, by omega⟩
   have hbk := (show badE df l k = ((decide (0 < k) && !bytesBefore (gE l (k - 1)).1 ky) || !fitsN vl || (decide (vl = 0) && !decide (df.kind = 3))) by rw [Hbe.out]; congr 2; by_cases h3 : df.kind = 3 <;> simp [h3])
   have hzz : (vl == 0) = decide (vl = 0) := rfl
   have hpp : decide ((0 : Int) < (k : Int)) = decide (0 < k) := by by_cases h : 0 < k <;> simp [h]
   have HPK := hid (show (decide (0 < k) = true → 0 < k) from fun h => of_decide_eq_true h)
   obtain ⟨y, hy⟩ : ∃ y, y = (gE l (k - 1)).1 := ⟨_, rfl⟩
   have HF2 := hid (show decide (0 < k) = true → wr.cell? ⟨b, o + (k - 1) * 2, none⟩ = some (.string (str y)) from fun h => by
    obtain ⟨y', h1, h2⟩ := HF1.out (of_decide_eq_true h)
    rw [hy, h1]; exact h2)
   have HG1 := hid (show decide (0 < k) = true → IntKind.i64.wrap ((k : Int) - 1) = (k : Int) - 1 ∧ (1 : Int) ≤ (k : Int) ∧ (k : Int) - 1 < (n : Int) ∧ ((k : Int) - 1).toNat = k - 1 from fun h => hg1 (of_decide_eq_true h))
   rw [← hy, ← tb_less] at hbk
   have HPP := hid hpp
   have HZZ := hid hzz
   clear hg1 hpp hzz Hbe HF1 hy
   have Hls := hid (show Op.bytesLess y ky = Op.bytesLess y ky from rfl)
   have Hfb := hid (show fitsN vl = fitsN vl from rfl)
   have Hkb := hid (show decide (df.kind = 3) = decide (df.kind = 3) from rfl)
   generalize hbz : decide (0 < k) = bz at hbk HF2 HG1 HPP HPK
   generalize hls : Op.bytesLess y ky = ls at hbk
   generalize hfb : fitsN vl = fb at hbk
   generalize hzb : decide (vl = 0) = zb at hbk HZZ
   generalize hkb : decide (df.kind = 3) = kb at hbk
   replace Hls := hid hls; replace Hfb := hid hfb; replace Hkb := hid hkb
   have Hbz := hid hbz
   clear hbz hls hfb hzb hkb
   obtain ⟨r12, hr12⟩ : ∃ r, r = (bz && !ls) := ⟨_, rfl⟩
   obtain ⟨r18, hr18⟩ : ∃ r, r = (r12 || !fb) := ⟨_, rfl⟩
   obtain ⟨r23, hr23⟩ : ∃ r, r = (!r18 && zb) := ⟨_, rfl⟩
   obtain ⟨r27, hr27⟩ : ∃ r, r = (zb && !kb) := ⟨_, rfl⟩
   obtain ⟨r28, hr28⟩ : ∃ r, r = (r18 || r27) := ⟨_, rfl⟩
   have Hbk := hid (show badE df l k = r28 by rw [hbk, hr28, hr27, hr18, hr12])
   have H12 := hid hr12; have H18 := hid hr18; have H23 := hid hr23; have H27 := hid hr27; have H28 := hid hr28
   clear hbk hr12 hr18 hr23 hr27 hr28
   go_wp2_with fail
   apply wp_drawn [isV _, isV (.bool bz), isV (.bool bz), isV (bif bz then .slice (some ⟨b, o, none⟩) n c else undef), isV (bif bz then .int .i64 (k : Int) else undef), isV (bif bz then .int .i64 ((k : Int) - 1) else undef), isV (bif bz then .pointer (some ⟨b, o + (k - 1) * 2, none⟩) else undef), isV (bif bz then .pointer (some ⟨b, o + (k - 1) * 2, none⟩) else undef), isV (bif bz then .string (str y) else undef), isV (bif bz then .pointer (some ⟨wr.heap.size, 0, none⟩) else undef), isV (bif bz then .string (str ky) else undef), isV (bif bz then .bool (!ls) else undef), isV (.bool r12), isV (.bool r12), isV (bif r12 then undef else .pointer (some ⟨wr.heap.size, 1, none⟩)), isV (bif r12 then undef else .int .i64 vl), isV (bif r12 then undef else .bool fb), isV (bif r12 then undef else .bool (!fb)), isV (.bool r18), isV (.bool r18), isV (bif r18 then undef else .pointer (some ⟨wr.heap.size, 1, none⟩)), isV (bif r18 then undef else .int .i64 vl), isV (bif r18 then undef else .bool zb), isV (bif r18 then undef else .bool zb), isV (bif r23 then .pointer (some ⟨s, 0, none⟩) else undef), isV (bif r23 then .bool kb else undef), isV (bif r23 then .bool (!kb) else undef), isV (bif r18 then undef else .bool r27), isV (.bool r28)] (by kernel_rfl)
   ·kernel_rfl
   ·refine ⟨?los0, ?los1, ?los2, ?los3, ?los4, ?los5, ?los6, ?los7, ?los8, ?los9, ?los10, ?los11, ?los12, ?los13, ?los14, ?los15, ?los16, ?los17, ?los18, ?los19, ?los20, ?los21, ?los22, ?los23, ?los24, ?los25, ?los26, ?los27, ?los28, trivial⟩
    case los0 =>
     intro v W hE hd; simp only [Region.wanted, ↓reduceIte]; (try simp [deps, waitsOn, Region.binds, knowing, isV, ownsV, anyV] at hd); simp only [putAll, List.take_succ_cons, List.take_zero, List.drop_succ_cons, List.drop_zero, Act.put, List.setIfInBounds_toArray, List.set_cons_zero, List.set_cons_succ, Nat.zero_add, Nat.reduceAdd]; go_simp; exact ⟨Below.refl _ _, rfl⟩
    case los1 =>
     intro v W hE hd; simp only [Region.wanted, ↓reduceIte]; (try simp [deps, waitsOn, Region.binds, knowing, isV, ownsV, anyV] at hd); simp only [putAll, List.take_succ_cons, List.take_zero, List.drop_succ_cons, List.drop_zero, Act.put, List.setIfInBounds_toArray, List.set_cons_zero, List.set_cons_succ, Nat.zero_add, Nat.reduceAdd]
     go_simp
     exact ⟨Below.refl _ _, by show Value.bool _ = _; rw [Hbz.out]⟩
    case los2 =>
     intro v W hE hd; simp only [Region.wanted, ↓reduceIte]; (try simp [deps, waitsOn, Region.binds, knowing, isV, ownsV, anyV] at hd); simp only [putAll, List.take_succ_cons, List.take_zero, List.drop_succ_cons, List.drop_zero, Act.put, List.setIfInBounds_toArray, List.set_cons_zero, List.set_cons_succ, Nat.zero_add, Nat.reduceAdd]
     go_simp
     exact ⟨Below.refl _ _, rfl⟩
    case los3 =>
     intro v W hE hd
     cases bz
     ·(try simp [deps, waitsOn, Region.binds, knowing, isV, ownsV, anyV] at hd); simp only [putAll, List.take_succ_cons, List.take_zero, List.drop_succ_cons, List.drop_zero, Act.put, List.setIfInBounds_toArray, List.set_cons_zero, List.set_cons_succ, Nat.zero_add, Nat.reduceAdd]; rw [if_neg (by simp [Region.wanted, yielded, hd, undef])]; exact rfl
     ·(try simp [deps, waitsOn, Region.binds, knowing, isV, ownsV, anyV] at hd); simp only [putAll, List.take_succ_cons, List.take_zero, List.drop_succ_cons, List.drop_zero, Act.put, List.setIfInBounds_toArray, List.set_cons_zero, List.set_cons_succ, Nat.zero_add, Nat.reduceAdd]; rw [if_pos (by simp [Region.wanted, yielded, hd])]
      go_simp
      exact ⟨Below.refl _ _, rfl⟩
    case los4 =>
     intro v W hE hd
     cases bz
     ·(try simp [deps, waitsOn, Region.binds, knowing, isV, ownsV, anyV] at hd); simp only [putAll, List.take_succ_cons, List.take_zero, List.drop_succ_cons, List.drop_zero, Act.put, List.setIfInBounds_toArray, List.set_cons_zero, List.set_cons_succ, Nat.zero_add, Nat.reduceAdd]; rw [if_neg (by simp [Region.wanted, yielded, hd, undef])]; exact rfl
     ·(try simp [deps, waitsOn, Region.binds, knowing, isV, ownsV, anyV] at hd); simp only [putAll, List.take_succ_cons, List.take_zero, List.drop_succ_cons, List.drop_zero, Act.put, List.setIfInBounds_toArray, List.set_cons_zero, List.set_cons_succ, Nat.zero_add, Nat.reduceAdd]; rw [if_pos (by simp [Region.wanted, yielded, hd])]
      go_simp
      exact ⟨Below.refl _ _, rfl⟩
    case los5 =>
     intro v W hE hd
     cases bz
     ·(try simp [deps, waitsOn, Region.binds, knowing, isV, ownsV, anyV] at hd); simp only [putAll, List.take_succ_cons, List.take_zero, List.drop_succ_cons, List.drop_zero, Act.put, List.setIfInBounds_toArray, List.set_cons_zero, List.set_cons_succ, Nat.zero_add, Nat.reduceAdd]; rw [if_neg (by simp [Region.wanted, yielded, hd, undef])]; exact rfl
     ·(try simp [deps, waitsOn, Region.binds, knowing, isV, ownsV, anyV] at hd); simp only [putAll, List.take_succ_cons, List.take_zero, List.drop_succ_cons, List.drop_zero, Act.put, List.setIfInBounds_toArray, List.set_cons_zero, List.set_cons_succ, Nat.zero_add, Nat.reduceAdd]; rw [if_pos (by simp [Region.wanted, yielded, hd])]
      obtain ⟨hw, g1, g2, g3⟩ := HG1.out rfl
      go_simp
      exact ⟨Below.refl _ _, rfl⟩
    case los6 =>
     intro v W hE hd
     cases bz
     ·(try simp [deps, waitsOn, Region.binds, knowing, isV, ownsV, anyV] at hd); simp only [putAll, List.take_succ_cons, List.take_zero, List.drop_succ_cons, List.drop_zero, Act.put, List.setIfInBounds_toArray, List.set_cons_zero, List.set_cons_succ, Nat.zero_add, Nat.reduceAdd]; rw [if_neg (by simp [Region.wanted, yielded, hd, undef])]; exact rfl
     ·(try simp [deps, waitsOn, Region.binds, knowing, isV, ownsV, anyV] at hd); simp only [putAll, List.take_succ_cons, List.take_zero, List.drop_succ_cons, List.drop_zero, Act.put, List.setIfInBounds_toArray, List.set_cons_zero, List.set_cons_succ, Nat.zero_add, Nat.reduceAdd]; rw [if_pos (by simp [Region.wanted, yielded, hd])]
      obtain ⟨hw, g1, g2, g3⟩ := HG1.out rfl
      go_simp
      exact ⟨Below.refl _ _, rfl⟩
    case los7 =>
     intro v W hE hd
     cases bz
     ·(try simp [deps, waitsOn, Region.binds, knowing, isV, ownsV, anyV] at hd); simp only [putAll, List.take_succ_cons, List.take_zero, List.drop_succ_cons, List.drop_zero, Act.put, List.setIfInBounds_toArray, List.set_cons_zero, List.set_cons_succ, Nat.zero_add, Nat.reduceAdd]; rw [if_neg (by simp [Region.wanted, yielded, hd, undef])]; exact rfl
     ·(try simp [deps, waitsOn, Region.binds, knowing, isV, ownsV, anyV] at hd); simp only [putAll, List.take_succ_cons, List.take_zero, List.drop_succ_cons, List.drop_zero, Act.put, List.setIfInBounds_toArray, List.set_cons_zero, List.set_cons_succ, Nat.zero_add, Nat.reduceAdd]; rw [if_pos (by simp [Region.wanted, yielded, hd])]
      go_simp
      exact ⟨Below.refl _ _, rfl⟩
    case los8 =>
     intro v W hE hd
     cases bz
     ·(try simp [deps, waitsOn, Region.binds, knowing, isV, ownsV, anyV] at hd); simp only [putAll, List.take_succ_cons, List.take_zero, List.drop_succ_cons, List.drop_zero, Act.put, List.setIfInBounds_toArray, List.set_cons_zero, List.set_cons_succ, Nat.zero_add, Nat.reduceAdd]; rw [if_neg (by simp [Region.wanted, yielded, hd, undef])]; exact rfl
     ·(try simp [deps, waitsOn, Region.binds, knowing, isV, ownsV, anyV] at hd); simp only [putAll, List.take_succ_cons, List.take_zero, List.drop_succ_cons, List.drop_zero, Act.put, List.setIfInBounds_toArray, List.set_cons_zero, List.set_cons_succ, Nat.zero_add, Nat.reduceAdd]; rw [if_pos (by simp [Region.wanted, yielded, hd])]
      have e1 := cell_below (Ext.trans' HEb.out hE) (HF2.out rfl)
      go_simp
      exact ⟨Below.refl _ _, rfl⟩
    case los9 =>
     intro v W hE hd
     cases bz
     ·(try simp [deps, waitsOn, Region.binds, knowing, isV, ownsV, anyV] at hd); simp only [putAll, List.take_succ_cons, List.take_zero, List.drop_succ_cons, List.drop_zero, Act.put, List.setIfInBounds_toArray, List.set_cons_zero, List.set_cons_succ, Nat.zero_add, Nat.reduceAdd]; rw [if_neg (by simp [Region.wanted, yielded, hd, undef])]; exact rfl
     ·(try simp [deps, waitsOn, Region.binds, knowing, isV, ownsV, anyV] at hd); simp only [putAll, List.take_succ_cons, List.take_zero, List.drop_succ_cons, List.drop_zero, Act.put, List.setIfInBounds_toArray, List.set_cons_zero, List.set_cons_succ, Nat.zero_add, Nat.reduceAdd]; rw [if_pos (by simp [Region.wanted, yielded, hd])]
      go_simp
      exact ⟨Below.refl _ _, rfl⟩
    case los10 =>
     intro v W hE hd
     cases bz
     ·(try simp [deps, waitsOn, Region.binds, knowing, isV, ownsV, anyV] at hd); simp only [putAll, List.take_succ_cons, List.take_zero, List.drop_succ_cons, List.drop_zero, Act.put, List.setIfInBounds_toArray, List.set_cons_zero, List.set_cons_succ, Nat.zero_add, Nat.reduceAdd]; rw [if_neg (by simp [Region.wanted, yielded, hd, undef])]; exact rfl
     ·(try simp [deps, waitsOn, Region.binds, knowing, isV, ownsV, anyV] at hd); simp only [putAll, List.take_succ_cons, List.take_zero, List.drop_succ_cons, List.drop_zero, Act.put, List.setIfInBounds_toArray, List.set_cons_zero, List.set_cons_succ, Nat.zero_add, Nat.reduceAdd]; rw [if_pos (by simp [Region.wanted, yielded, hd])]
      have e1 := cell_below hE Fk.out
      go_simp
      exact ⟨Below.refl _ _, rfl⟩
    case los11 =>
     intro v W hE hd
     cases bz
     ·(try simp [deps, waitsOn, Region.binds, knowing, isV, ownsV, anyV] at hd); simp only [putAll, List.take_succ_cons, List.take_zero, List.drop_succ_cons, List.drop_zero, Act.put, List.setIfInBounds_toArray, List.set_cons_zero, List.set_cons_succ, Nat.zero_add, Nat.reduceAdd]; rw [if_neg (by simp [Region.wanted, yielded, hd, undef])]; exact rfl
     ·(try simp [deps, waitsOn, Region.binds, knowing, isV, ownsV, anyV] at hd); simp only [putAll, List.take_succ_cons, List.take_zero, List.drop_succ_cons, List.drop_zero, Act.put, List.setIfInBounds_toArray, List.set_cons_zero, List.set_cons_succ, Nat.zero_add, Nat.reduceAdd]; rw [if_pos (by simp [Region.wanted, yielded, hd])]
      go_simp
      exact ⟨_, rfl, Below.refl _ _, by show Value.bool _ = _; rw [str_toList, str_toList, Hls.out]⟩
    case los12 =>
     intro v W hE hd; simp only [Region.wanted, ↓reduceIte]; (try simp [deps, waitsOn, Region.binds, knowing, isV, ownsV, anyV] at hd); simp only [putAll, List.take_succ_cons, List.take_zero, List.drop_succ_cons, List.drop_zero, Act.put, List.setIfInBounds_toArray, List.set_cons_zero, List.set_cons_succ, Nat.zero_add, Nat.reduceAdd]
     rw [H12.out]
     cases bz <;> cases ls
     all_goals
      simp only [cond_true, cond_false] at hd
      go_simp
      exact ⟨Below.refl _ _, rfl⟩
    case los13 =>
     intro v W hE hd; simp only [Region.wanted, ↓reduceIte]; (try simp [deps, waitsOn, Region.binds, knowing, isV, ownsV, anyV] at hd); simp only [putAll, List.take_succ_cons, List.take_zero, List.drop_succ_cons, List.drop_zero, Act.put, List.setIfInBounds_toArray, List.set_cons_zero, List.set_cons_succ, Nat.zero_add, Nat.reduceAdd]
     go_simp
     exact ⟨Below.refl _ _, rfl⟩
    case los14 =>
     intro v W hE hd
     cases r12
     ·(try simp [deps, waitsOn, Region.binds, knowing, isV, ownsV, anyV] at hd); simp only [putAll, List.take_succ_cons, List.take_zero, List.drop_succ_cons, List.drop_zero, Act.put, List.setIfInBounds_toArray, List.set_cons_zero, List.set_cons_succ, Nat.zero_add, Nat.reduceAdd]; rw [if_pos (by simp [Region.wanted, yielded, hd])]
      go_simp
      exact ⟨Below.refl _ _, rfl⟩
     ·(try simp [deps, waitsOn, Region.binds, knowing, isV, ownsV, anyV] at hd); simp only [putAll, List.take_succ_cons, List.take_zero, List.drop_succ_cons, List.drop_zero, Act.put, List.setIfInBounds_toArray, List.set_cons_zero, List.set_cons_succ, Nat.zero_add, Nat.reduceAdd]; rw [if_neg (by simp [Region.wanted, yielded, hd, undef])]; exact rfl
    case los15 =>
     intro v W hE hd
     cases r12
     ·(try simp [deps, waitsOn, Region.binds, knowing, isV, ownsV, anyV] at hd); simp only [putAll, List.take_succ_cons, List.take_zero, List.drop_succ_cons, List.drop_zero, Act.put, List.setIfInBounds_toArray, List.set_cons_zero, List.set_cons_succ, Nat.zero_add, Nat.reduceAdd]; rw [if_pos (by simp [Region.wanted, yielded, hd])]
      have e1 := cell_below hE Fv.out
      go_simp
      exact ⟨Below.refl _ _, rfl⟩
     ·(try simp [deps, waitsOn, Region.binds, knowing, isV, ownsV, anyV] at hd); simp only [putAll, List.take_succ_cons, List.take_zero, List.drop_succ_cons, List.drop_zero, Act.put, List.setIfInBounds_toArray, List.set_cons_zero, List.set_cons_succ, Nat.zero_add, Nat.reduceAdd]; rw [if_neg (by simp [Region.wanted, yielded, hd, undef])]; exact rfl
    case los16 =>
     intro v W hE hd
     cases r12
     ·(try simp [deps, waitsOn, Region.binds, knowing, isV, ownsV, anyV] at hd); simp only [putAll, List.take_succ_cons, List.take_zero, List.drop_succ_cons, List.drop_zero, Act.put, List.setIfInBounds_toArray, List.set_cons_zero, List.set_cons_succ, Nat.zero_add, Nat.reduceAdd]; rw [if_pos (by simp [Region.wanted, yielded, hd])]
      go_simp
      refine (fits_at _ W).mono ?_
      rintro x w' ⟨rfl, rfl⟩
      rw [Hfb.out]
      go_simp
      exact ⟨Below.refl _ _, rfl⟩
     ·(try simp [deps, waitsOn, Region.binds, knowing, isV, ownsV, anyV] at hd); simp only [putAll, List.take_succ_cons, List.take_zero, List.drop_succ_cons, List.drop_zero, Act.put, List.setIfInBounds_toArray, List.set_cons_zero, List.set_cons_succ, Nat.zero_add, Nat.reduceAdd]; rw [if_neg (by simp [Region.wanted, yielded, hd, undef])]; exact rfl
    case los17 =>
     intro v W hE hd
     cases r12
     ·(try simp [deps, waitsOn, Region.binds, knowing, isV, ownsV, anyV] at hd); simp only [putAll, List.take_succ_cons, List.take_zero, List.drop_succ_cons, List.drop_zero, Act.put, List.setIfInBounds_toArray, List.set_cons_zero, List.set_cons_succ, Nat.zero_add, Nat.reduceAdd]; rw [if_pos (by simp [Region.wanted, yielded, hd])]
      go_simp
      exact ⟨Below.refl _ _, rfl⟩
     ·(try simp [deps, waitsOn, Region.binds, knowing, isV, ownsV, anyV] at hd); simp only [putAll, List.take_succ_cons, List.take_zero, List.drop_succ_cons, List.drop_zero, Act.put, List.setIfInBounds_toArray, List.set_cons_zero, List.set_cons_succ, Nat.zero_add, Nat.reduceAdd]; rw [if_neg (by simp [Region.wanted, yielded, hd, undef])]; exact rfl
    case los18 =>
     intro v W hE hd; simp only [Region.wanted, ↓reduceIte]; (try simp [deps, waitsOn, Region.binds, knowing, isV, ownsV, anyV] at hd); simp only [putAll, List.take_succ_cons, List.take_zero, List.drop_succ_cons, List.drop_zero, Act.put, List.setIfInBounds_toArray, List.set_cons_zero, List.set_cons_succ, Nat.zero_add, Nat.reduceAdd]
     rw [H18.out]
     cases r12 <;> cases fb
     all_goals
      simp only [cond_true, cond_false] at hd
      go_simp
      exact ⟨Below.refl _ _, rfl⟩
    case los19 =>
     intro v W hE hd; simp only [Region.wanted, ↓reduceIte]; (try simp [deps, waitsOn, Region.binds, knowing, isV, ownsV, anyV] at hd); simp only [putAll, List.take_succ_cons, List.take_zero, List.drop_succ_cons, List.drop_zero, Act.put, List.setIfInBounds_toArray, List.set_cons_zero, List.set_cons_succ, Nat.zero_add, Nat.reduceAdd]
     go_simp
     exact ⟨Below.refl _ _, rfl⟩
    case los20 =>
     intro v W hE hd
     cases r18
     ·(try simp [deps, waitsOn, Region.binds, knowing, isV, ownsV, anyV] at hd); simp only [putAll, List.take_succ_cons, List.take_zero, List.drop_succ_cons, List.drop_zero, Act.put, List.setIfInBounds_toArray, List.set_cons_zero, List.set_cons_succ, Nat.zero_add, Nat.reduceAdd]; rw [if_pos (by simp [Region.wanted, yielded, hd])]
      go_simp
      exact ⟨Below.refl _ _, rfl⟩
     ·(try simp [deps, waitsOn, Region.binds, knowing, isV, ownsV, anyV] at hd); simp only [putAll, List.take_succ_cons, List.take_zero, List.drop_succ_cons, List.drop_zero, Act.put, List.setIfInBounds_toArray, List.set_cons_zero, List.set_cons_succ, Nat.zero_add, Nat.reduceAdd]; rw [if_neg (by simp [Region.wanted, yielded, hd, undef])]; exact rfl
    case los21 =>
     intro v W hE hd
     cases r18
     ·(try simp [deps, waitsOn, Region.binds, knowing, isV, ownsV, anyV] at hd); simp only [putAll, List.take_succ_cons, List.take_zero, List.drop_succ_cons, List.drop_zero, Act.put, List.setIfInBounds_toArray, List.set_cons_zero, List.set_cons_succ, Nat.zero_add, Nat.reduceAdd]; rw [if_pos (by simp [Region.wanted, yielded, hd])]
      have e1 := cell_below hE Fv.out
      go_simp
      exact ⟨Below.refl _ _, rfl⟩
     ·(try simp [deps, waitsOn, Region.binds, knowing, isV, ownsV, anyV] at hd); simp only [putAll, List.take_succ_cons, List.take_zero, List.drop_succ_cons, List.drop_zero, Act.put, List.setIfInBounds_toArray, List.set_cons_zero, List.set_cons_succ, Nat.zero_add, Nat.reduceAdd]; rw [if_neg (by simp [Region.wanted, yielded, hd, undef])]; exact rfl
    case los22 =>
     intro v W hE hd
     cases r18
     ·(try simp [deps, waitsOn, Region.binds, knowing, isV, ownsV, anyV] at hd); simp only [putAll, List.take_succ_cons, List.take_zero, List.drop_succ_cons, List.drop_zero, Act.put, List.setIfInBounds_toArray, List.set_cons_zero, List.set_cons_succ, Nat.zero_add, Nat.reduceAdd]; rw [if_pos (by simp [Region.wanted, yielded, hd])]
      have hz := HZZ.out
      go_simp
      exact ⟨Below.refl _ _, rfl⟩
     ·(try simp [deps, waitsOn, Region.binds, knowing, isV, ownsV, anyV] at hd); simp only [putAll, List.take_succ_cons, List.take_zero, List.drop_succ_cons, List.drop_zero, Act.put, List.setIfInBounds_toArray, List.set_cons_zero, List.set_cons_succ, Nat.zero_add, Nat.reduceAdd]; rw [if_neg (by simp [Region.wanted, yielded, hd, undef])]; exact rfl
    case los23 =>
     intro v W hE hd
     cases r18
     ·(try simp [deps, waitsOn, Region.binds, knowing, isV, ownsV, anyV] at hd); simp only [putAll, List.take_succ_cons, List.take_zero, List.drop_succ_cons, List.drop_zero, Act.put, List.setIfInBounds_toArray, List.set_cons_zero, List.set_cons_succ, Nat.zero_add, Nat.reduceAdd]; rw [if_pos (by simp [Region.wanted, yielded, hd])]
      go_simp
      exact ⟨Below.refl _ _, rfl⟩
     ·(try simp [deps, waitsOn, Region.binds, knowing, isV, ownsV, anyV] at hd); simp only [putAll, List.take_succ_cons, List.take_zero, List.drop_succ_cons, List.drop_zero, Act.put, List.setIfInBounds_toArray, List.set_cons_zero, List.set_cons_succ, Nat.zero_add, Nat.reduceAdd]; rw [if_neg (by simp [Region.wanted, yielded, hd, undef])]; exact rfl
    case los24 =>
     intro v W hE hd
     rw [H23.out] at *
     cases r18 <;> cases zb
     ·(try simp [deps, waitsOn, Region.binds, knowing, isV, ownsV, anyV] at hd); simp only [putAll, List.take_succ_cons, List.take_zero, List.drop_succ_cons, List.drop_zero, Act.put, List.setIfInBounds_toArray, List.set_cons_zero, List.set_cons_succ, Nat.zero_add, Nat.reduceAdd]; rw [if_neg (by simp [Region.wanted, yielded, hd, undef])]; exact rfl
     ·(try simp [deps, waitsOn, Region.binds, knowing, isV, ownsV, anyV] at hd); simp only [putAll, List.take_succ_cons, List.take_zero, List.drop_succ_cons, List.drop_zero, Act.put, List.setIfInBounds_toArray, List.set_cons_zero, List.set_cons_succ, Nat.zero_add, Nat.reduceAdd]; rw [if_pos (by simp [Region.wanted, yielded, hd])]
      go_simp
      exact ⟨Below.refl _ _, rfl⟩
     ·(try simp [deps, waitsOn, Region.binds, knowing, isV, ownsV, anyV] at hd); simp only [putAll, List.take_succ_cons, List.take_zero, List.drop_succ_cons, List.drop_zero, Act.put, List.setIfInBounds_toArray, List.set_cons_zero, List.set_cons_succ, Nat.zero_add, Nat.reduceAdd]; rw [if_neg (by simp [Region.wanted, yielded, hd, undef])]; exact rfl
     ·(try simp [deps, waitsOn, Region.binds, knowing, isV, ownsV, anyV] at hd); simp only [putAll, List.take_succ_cons, List.take_zero, List.drop_succ_cons, List.drop_zero, Act.put, List.setIfInBounds_toArray, List.set_cons_zero, List.set_cons_succ, Nat.zero_add, Nat.reduceAdd]; rw [if_neg (by simp [Region.wanted, yielded, hd, undef])]; exact rfl
    case los25 =>
     intro v W hE hd
     rw [H23.out] at *
     cases r18 <;> cases zb
     ·(try simp [deps, waitsOn, Region.binds, knowing, isV, ownsV, anyV] at hd); simp only [putAll, List.take_succ_cons, List.take_zero, List.drop_succ_cons, List.drop_zero, Act.put, List.setIfInBounds_toArray, List.set_cons_zero, List.set_cons_succ, Nat.zero_add, Nat.reduceAdd]; rw [if_neg (by simp [Region.wanted, yielded, hd, undef])]; exact rfl
     ·(try simp [deps, waitsOn, Region.binds, knowing, isV, ownsV, anyV] at hd); simp only [putAll, List.take_succ_cons, List.take_zero, List.drop_succ_cons, List.drop_zero, Act.put, List.setIfInBounds_toArray, List.set_cons_zero, List.set_cons_succ, Nat.zero_add, Nat.reduceAdd]; rw [if_pos (by simp [Region.wanted, yielded, hd])]
      go_simp
      refine (keeps_at (HSr.out.ext (Ext.trans' HEb.out hE))).mono ?_
      rintro x w' ⟨rfl, rfl⟩
      rw [Hkb.out]
      go_simp
      exact ⟨Below.refl _ _, rfl⟩
     ·(try simp [deps, waitsOn, Region.binds, knowing, isV, ownsV, anyV] at hd); simp only [putAll, List.take_succ_cons, List.take_zero, List.drop_succ_cons, List.drop_zero, Act.put, List.setIfInBounds_toArray, List.set_cons_zero, List.set_cons_succ, Nat.zero_add, Nat.reduceAdd]; rw [if_neg (by simp [Region.wanted, yielded, hd, undef])]; exact rfl
     ·(try simp [deps, waitsOn, Region.binds, knowing, isV, ownsV, anyV] at hd); simp only [putAll, List.take_succ_cons, List.take_zero, List.drop_succ_cons, List.drop_zero, Act.put, List.setIfInBounds_toArray, List.set_cons_zero, List.set_cons_succ, Nat.zero_add, Nat.reduceAdd]; rw [if_neg (by simp [Region.wanted, yielded, hd, undef])]; exact rfl
    case los26 =>
     intro v W hE hd
     rw [H23.out] at *
     cases r18 <;> cases zb
     ·(try simp [deps, waitsOn, Region.binds, knowing, isV, ownsV, anyV] at hd); simp only [putAll, List.take_succ_cons, List.take_zero, List.drop_succ_cons, List.drop_zero, Act.put, List.setIfInBounds_toArray, List.set_cons_zero, List.set_cons_succ, Nat.zero_add, Nat.reduceAdd]; rw [if_neg (by simp [Region.wanted, yielded, hd, undef])]; exact rfl
     ·(try simp [deps, waitsOn, Region.binds, knowing, isV, ownsV, anyV] at hd); simp only [putAll, List.take_succ_cons, List.take_zero, List.drop_succ_cons, List.drop_zero, Act.put, List.setIfInBounds_toArray, List.set_cons_zero, List.set_cons_succ, Nat.zero_add, Nat.reduceAdd]; rw [if_pos (by simp [Region.wanted, yielded, hd])]
      go_simp
      exact ⟨Below.refl _ _, rfl⟩
     ·(try simp [deps, waitsOn, Region.binds, knowing, isV, ownsV, anyV] at hd); simp only [putAll, List.take_succ_cons, List.take_zero, List.drop_succ_cons, List.drop_zero, Act.put, List.setIfInBounds_toArray, List.set_cons_zero, List.set_cons_succ, Nat.zero_add, Nat.reduceAdd]; rw [if_neg (by simp [Region.wanted, yielded, hd, undef])]; exact rfl
     ·(try simp [deps, waitsOn, Region.binds, knowing, isV, ownsV, anyV] at hd); simp only [putAll, List.take_succ_cons, List.take_zero, List.drop_succ_cons, List.drop_zero, Act.put, List.setIfInBounds_toArray, List.set_cons_zero, List.set_cons_succ, Nat.zero_add, Nat.reduceAdd]; rw [if_neg (by simp [Region.wanted, yielded, hd, undef])]; exact rfl
    case los27 =>
     intro v W hE hd
     rw [H27.out, H23.out] at *
     cases r18
     ·cases zb <;> cases kb
      all_goals
       (try simp [deps, waitsOn, Region.binds, knowing, isV, ownsV, anyV] at hd); simp only [putAll, List.take_succ_cons, List.take_zero, List.drop_succ_cons, List.drop_zero, Act.put, List.setIfInBounds_toArray, List.set_cons_zero, List.set_cons_succ, Nat.zero_add, Nat.reduceAdd]; rw [if_pos (by simp [Region.wanted, yielded, hd])]
       go_simp
       exact ⟨Below.refl _ _, rfl⟩
     ·(try simp [deps, waitsOn, Region.binds, knowing, isV, ownsV, anyV] at hd); simp only [putAll, List.take_succ_cons, List.take_zero, List.drop_succ_cons, List.drop_zero, Act.put, List.setIfInBounds_toArray, List.set_cons_zero, List.set_cons_succ, Nat.zero_add, Nat.reduceAdd]; rw [if_neg (by simp [Region.wanted, yielded, hd, undef])]; exact rfl
    case los28 =>
     intro v W hE hd; simp only [Region.wanted, ↓reduceIte]; (try simp [deps, waitsOn, Region.binds, knowing, isV, ownsV, anyV] at hd); simp only [putAll, List.take_succ_cons, List.take_zero, List.drop_succ_cons, List.drop_zero, Act.put, List.setIfInBounds_toArray, List.set_cons_zero, List.set_cons_succ, Nat.zero_add, Nat.reduceAdd]
     rw [H28.out]
     cases r18 <;> cases r27
     all_goals
      simp only [cond_true, cond_false] at hd
      go_simp
      exact ⟨Below.refl _ _, rfl⟩
   ·rintro v W9 hE ⟨-, -, -, -, -, -, -, -, -, -, -, -, -, -, -, -, -, -, -, -, -, -, -, -, -, -, -, -, e28, -⟩
    have e28 := (show v 28 = _ from e28)
    simp only [putAll, List.take_succ_cons, List.take_zero, List.drop_succ_cons, List.drop_zero, Act.put, List.setIfInBounds_toArray, List.set_cons_zero, List.set_cons_succ, Nat.zero_add, Nat.reduceAdd]
    rw [e28]
    have HE9 := hid (Ext.trans' HEb.out hE)
    have Hx0 := hid (cell_below hE Fk.out); have Hx1 := hid (cell_below hE Fv.out)
    clear e28 hE
    cases r28
    ·have Hnext := hid (show ∀ j, j < k + 1 → badE df l j = false from fun j hj => (HNk.out j hj).elim (fun e => by subst e; exact Hbk.out) (HN.out j))
     obtain ⟨w5, r5, M5, T5⟩ := store_in (HMr.out.ext HE9.out) Hkey.out Hval.out Hplen.out
     have fk := Hx0.out; have fv := Hx1.out
     go_wp2_with fail
     go_roundw
     case rel => exact ⟨k + 1, by omega, by go_num, hid (below_turned (HEr.out.trans' HE9.out) T5.out Hm.out), by rw [Hnx.out]; exact M5, Hnext⟩
     case measure => simp [intOf]; omega
    ·have hr := hid (okE_no hkx Hbk.out)
     go_wp2
     go_ret
     exact HNO.out W9 (HEr.out.trans' HE9.out) hr.out
  ·obtain rfl : k = n := by omega
   have hlt' : ¬ ((k : Int) < (k : Int)) := by omega
   have hr := hid (okE_yes fun j hj => HN.out j (by have := hn.out; omega))
   have hall := hid (show l.take k = l from List.take_of_length_le (by have := hn.out; omega))
   have HSr := hid (HSt.out.more (S' := fun k => S k ∨ k = w.heap.size) HEr.out (fun k hk => hk.imp id fun e => by omega) (.inl HSt.out.sIn) (.inl HSt.out.mIn))
   have HS2 := hid (HSr.out.setMap HMr.out (.inr rfl) (by have := Hlt.out; omega))
   obtain ⟨A', c', c0, c1, c2, -⟩ := HSr.out.cells
   have fz := HSr.out.free 2
   clear c0 c1
   go_wp2
   go_ret
   refine ⟨by unfold loadE; rw [hr.out]; rfl, ⟨w.heap.size, .inr (Nat.le_refl _), ?_⟩, ?_⟩
   ·have := HS2.out
    rw [hall.out] at this
    have e : loadF df l D = putsI l := by unfold loadF; rw [hr.out]; rfl
    rw [e]
    exact this
   ·exact (Kept2.of_ext HEr.out).trans ⟨rfl, rfl, rfl, by simp, fun k hk h1 _ => heap_setCell_other _ ⟨s, 2, none⟩ k _ (fun e => h1 e)⟩
end Go.Proofs.YtakebdeldndaaaaGreatDoor
/- What a state tells. -/
namespace Go.Proofs.YtakebdeldndaaaaGreatDoor
open Go Go.RowKit
set_option linter.unusedSimpArgs false
set_option linter.unusedVariables false
theorem strKeys_lit (D : Ents) : strKeys (DataW.map (litL D)) = D.map (·.1) := by
 show (D.map fun p => (Lit.string p.1, DataW.lit (H := Unit) (.int .i64 p.2))).map (fun p => strOf p.1) = _
 rw [List.map_map]; rfl
theorem rows_str_eq {w : World} {K : Nat → Prop} : ∀ {l : List (List UInt8)} {cs : List Value}, Rows Rep.str w K l cs → cs = l.map strV
 | [], _, h => h
 | s :: l, _, ⟨c, r, e, hc, hr⟩ => by rw [e, show c = [strV s] from hc, rows_str_eq hr]; rfl
theorem own_str {w : World} {base : Nat} {v : Value} {l : List (List UInt8)} (h : w.ownsRow base 9 1 v l.length (l.map strV)) : OwnK Rep.str 9 (fun _ => False) w base v l := ⟨_, h, rows_strs l⟩
theorem entinfo : SlInfo Tryz.prog 147 150 (.agg #[.string { data := #[] }, .int .i64 0]) REnt.size 24 := ⟨Tryz.underlying147, by kernel_rfl, rfl, by decide⟩
theorem rv_cells (w : World) (xs : List Value) (t : TypeId) : RV (w.alloc (.cells xs.toArray t)) (some ⟨w.heap.size, 0, none⟩) xs :=
 .inr ⟨w.heap.size, 0, rfl, fun j v hv => by rw [Nat.zero_add]; exact cells_new w xs t j v hv⟩
theorem up_find {D : Ents} (h : UpI D) (k : Nat) (hk : k < D.length) : atI D D[k].1 = D[k].2 := by
 unfold atI
 have : D.find? (·.1 == D[k].1) = some D[k] := by
  rw [List.find?_eq_some_iff_getElem]
  refine ⟨by simp, k, hk, rfl, fun j hj => ?_⟩
  have hlt := (List.pairwise_iff_getElem.1 h) j k (by omega) hk hj
  simpa using tb_ne hlt
 rw [this]; rfl
set_option maxRecDepth 100000 in
set_option maxHeartbeats 2000000 in
theorem entries_at {w : World} {S : Nat → Prop} {s m : Nat} {kv : Value} {q : List ClV} {D : Ents} (h : StIs w S s m kv q D) (hD : D.length < 1000000) :
  Calls Tryz.prog 99 #[.pointer (some ⟨s, 0, none⟩)] w fun e w' => ∃ v, e = .returned v ∧ OwnK REnt 150 (fun _ => False) w' w.heap.size v D ∧ Ext w w' := by
 obtain ⟨A, c, -, -, c2, -⟩ := h.cells
 have HSt := hid h
 have Hup := hid h.map.up
 have hD' := hid hD
 have hk := fun w => (callsIn_wide).1 (Tryz.maps_Keys_138 (some m) w)
 have hs := callsIn_wide.1 (Tryz.slices_Sorted_keys_50_138 m D.length (DataW.map (litL D)) (plainElem Tryz.prog 3) w h.map (by show (litL D).length ≤ maxLen; rw [litL_length]; simp only [maxLen]; omega) (by show (litL D).length * 16 ≤ _; rw [litL_length]; omega))
 have Hsh := hid h.map.short
 clear h hD
 go_enter Tryz.func99, Tryz.ntmps99
 go_wp2_with fail
 refine (hk _).mono ?_
 rintro e w1 ⟨rfl, rfl⟩
 clear hk
 go_wp2_with fail
 refine hs.mono ?_
 rintro e w2 ⟨v, ss, rfl, hp, hr, -, hB⟩
 rw [strKeys_lit] at hp
 rw [sort_names hp (by have := Hup.out; unfold UpI at this; rw [List.pairwise_map]; exact this), hp.length_eq] at hr
 have HB := hid (Ext.trans' (ext_alloc w (.cells #[.map (some m)] 186)) hB)
 obtain ⟨A2, c2', csr, rfl, hnc, hcm, hrows, hrv⟩ := (own_str hr).read
 have hkeys := rows_str_eq hrows
 subst hkeys
 have HR := hid (show SlR Rep.txt w2 (fun _ => True) A2 (D.map (·.1)).length c2' (D.map (·.1)) from ⟨rfl, hnc, hcm, _, rows_txt (fun x hx => by
  obtain ⟨p, hp, rfl⟩ := List.mem_map.1 hx
  exact Hsh.out p hp), by
  rcases hrv with h | ⟨b, o, e, h⟩
  ·exact .inl h
  ·exact .inr ⟨b, o, e, trivial, h⟩⟩)
 have hln := hid (show (D.map (·.1)).length = D.length from List.length_map ..)
 generalize hnn : (D.map (·.1)).length = n at *
 clear hs hp hr hB hrows hrv c2 hnn
 have Hcap := hid hcm
 obtain ⟨n0, hn0⟩ : ∃ n0, n0 = w2.heap.size := ⟨_, rfl⟩
 have Hn0 := hid hn0
 go_wp2_with fail
 go_loopw [3, 13] (fun u i wr => ∃ k : Nat, k ≤ n ∧ i = .int .i64 (k : Int) ∧ Hid (OwnK REnt 150 (fun _ => False) wr w2.heap.size u (D.take k)) ∧ Hid (Ext w2 wr)) (fun _ i _ => n - (intOf i).toNat)
 case atStart => exact ⟨0, by omega, rfl, hid (OwnK.nil w2 _), hid (Below.refl _ _)⟩
 case round =>
  obtain ⟨k, hk, rfl, HO, HE⟩ := hrel
  by_cases hlt : k < n
  ·have hkx : k < D.length := by have := hln.out; omega
   have hlt' : (k : Int) < (n : Int) := by omega
   have hk00 : ¬ ((k : Int) < 0) := by omega
   have hk0 : (0 : Int) ≤ (k : Int) := by omega
   obtain ⟨b, o, rfl, -, f0, hsk⟩ := txt_at HR.out k (by rw [List.length_map]; exact hkx)
   rw [List.getElem_map] at f0 hsk
   have F0 := hid f0
   clear f0
   have HSr := hid (HSt.out.ext (HB.out.trans' HE.out))
   obtain ⟨-, -, -, -, c2, -⟩ := HSr.out.cells
   have hl := (HSr.out.map.look D[k].1 hsk).1
   rw [up_find Hup.out k hkx] at hl
   have Hts := hid (show D.take (k + 1) = D.take k ++ [(D[k].1, D[k].2)] from List.take_succ_eq_append_getElem hkx)
   have hlen : (D.take k).length ≤ 1000000 := by rw [List.length_take]; have := hD'.out; omega
   have f0 := cell_below HE.out F0.out
   have Hsk := hid hsk
   generalize D[k].1 = ky at *
   generalize D[k].2 = vl at *
   have Hbox := hid (show ∃ cs, Rows REnt (wr.alloc (.cells #[.string (str ky), .int .i64 vl] 150)) (fun _ => False) [(ky, vl)] cs ∧ RV (wr.alloc (.cells #[.string (str ky), .int .i64 vl] 150)) (some ⟨wr.heap.size, 0, none⟩) cs from
    ⟨_, Rows.single (field_mk Hsk.out), rv_cells wr [.string (str ky), .int .i64 vl] _⟩)
   have HAb := hid (HO.out.ext (ext_alloc wr (.cells #[.string (str ky), .int .i64 vl] 150)) fun _ h => h.elim)
   have HBb := hid (HE.out.alloc HE.out.size (.cells #[.string (str ky), .int .i64 vl] 150))
   have hsz4 := HE.out.size
   clear hsk
   go_wp2_with (at_builtin; refine wpList_appK (w0 := w2) (R := REnt) (xs := D.take k) (base := w2.heap.size) entinfo rfl (.tmp 17) (.tmp 26) rfl rfl HAb (fun _ h => h.elim) HBb (by simp; omega) (some ⟨wr.heap.size, 0, none⟩) 1 1 [(ky, vl)] rfl rfl Hbox (by omega) (by omega) ?_; intro v2 W2 HA2 HB2 _; clear f0 c2 hl)
   all_goals
    go_roundw
    case rel => exact ⟨k + 1, by omega, by go_num, by rw [Hts.out]; exact HA2, HB2⟩
    case measure => simp [intOf]; omega
  ·obtain rfl : k = n := by omega
   have hlt' : ¬ ((k : Int) < (k : Int)) := by omega
   have hall := hid (show D.take k = D from List.take_of_length_le (by have := hln.out; omega))
   go_wp2
   go_ret
   exact ⟨_, rfl, by have := HO.out; rw [hall.out] at this; exact this.base' HB.out.size, HB.out.trans' HE.out⟩
end Go.Proofs.YtakebdeldndaaaaGreatDoor
/- Plain parts of the laws' helpers. -/
namespace Go.Proofs.YtakebdeldndaaaaGreatDoor
open Go Go.RowKit
set_option linter.unusedSimpArgs false
set_option linter.unusedVariables false
def allC : ClV := ⟨[], []⟩
end Go.Proofs.YtakebdeldndaaaaGreatDoor
