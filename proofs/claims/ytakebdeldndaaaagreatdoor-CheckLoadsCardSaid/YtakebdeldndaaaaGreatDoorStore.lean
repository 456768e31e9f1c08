/- Several texts of this claim's, one behind the other. -/
import Derived.Test.YtakebdeldndaaaaGreatDoorFound
import Derived.Test.YtakebdeldndaaaaGreatDoorShelf
import Derived.Maps.OwnSet
import Derived.Maps.RangeWalk
import Derived.StringKeys
import Derived.Handy
import Derived.Carry
/- The walks of chapter 8's small functions: kind, short, May. -/
namespace Go.Proofs.YtakebdeldndaaaaGreatDoor
open Go Go.RowKit
set_option linter.unusedSimpArgs false
set_option linter.unusedVariables false
/-! ### May -/
def letters : List UInt8 := [97, 98, 99, 100, 101, 102, 103, 104, 105, 106, 107, 108, 109, 110, 111, 112, 113, 114, 115, 116, 117, 118, 119, 120, 121, 122, 48, 49, 50, 51, 52, 53, 54, 55, 56, 57, 95]
def mayB (nm : List UInt8) : Bool := decide (0 < nm.length) && decide (nm.length ≤ 20) && nm.all (letters.contains ·)
theorem dropWhile_nil {p : UInt8 → Bool} : ∀ (l : List UInt8), l.dropWhile p = [] ↔ ∀ x ∈ l, p x = true
 | [] => by simp
 | x :: l => by
  rw [List.dropWhile_cons]
  by_cases h : p x = true
  ·rw [if_pos h, dropWhile_nil l]; simp [h]
  ·rw [if_neg h]; simp [h]
theorem dropWhile_head {p : UInt8 → Bool} : ∀ (l : List UInt8) (x : UInt8) (r : List UInt8), l.dropWhile p = x :: r → p x = false
 | [], _, _, h => by simp at h
 | y :: l, x, r, h => by
  rw [List.dropWhile_cons] at h
  by_cases hy : p y = true
  ·rw [if_pos hy] at h; exact dropWhile_head l x r h
  ·rw [if_neg hy] at h
   simp only [List.cons.injEq] at h
   rw [← h.1]; simpa using hy
theorem trim_nil (l cs : List UInt8) : Lib.trimS l cs = [] ↔ ∀ x ∈ l, cs.contains x = true := by
 unfold Lib.trimS Lib.trimLeftS Lib.trimRightS
 rw [dropWhile_nil]
 constructor
 ·intro h
  cases hd : l.reverse.dropWhile (cs.contains ·) with
  | nil =>
   rw [dropWhile_nil] at hd
   exact fun x hx => hd x (by simpa using hx)
  | cons x r =>
   have h1 := dropWhile_head _ _ _ hd
   have h2 := h x (by rw [hd]; simp)
   rw [h1] at h2; cases h2
 ·intro h x hx
  have hd : l.reverse.dropWhile (cs.contains ·) = [] := (dropWhile_nil _).2 fun x hx => h x (by simpa using hx)
  rw [hd] at hx; simp at hx
theorem letters_ascii : ∀ (j : Nat) b, (⟨letters.toArray⟩ : ByteArray).data.toList[j]? = some b → b.toNat < 128 := by
 intro j b h
 have hm : b ∈ letters := List.mem_of_getElem? h
 have hall : ∀ b ∈ letters, b.toNat < 128 := by decide
 exact hall b hm
set_option maxRecDepth 100000 in
theorem may_at (nm : List UInt8) (w : World) :
  Calls Tryz.prog 35 #[.string (str nm)] w fun e w' => e = .returned (.bool (mayB nm)) ∧ Below w.heap.size w w' := by
 have hsz := hid (str_size nm)
 have hl : ∀ w, (Builtin.len_ #[9] 3 #[.string (str nm)]).run Tryz.prog w = .ok (.int .i64 (nm.length : Int)) w := fun w => by go_simp; rfl
 by_cases h0 : 0 < nm.length
 rotate_left
 ·have hb := hid (show mayB nm = false by unfold mayB; simp [h0])
  have h0I : ¬ ((0 : Int) < (nm.length : Int)) := by omega
  go_enter Tryz.func35, Tryz.ntmps35
  go_wp2
  go_ret
  exact ⟨by rw [hb.out]; rfl, Below.refl _ _⟩
 by_cases h20 : nm.length ≤ 20
 rotate_left
 ·have hb := hid (show mayB nm = false by unfold mayB; simp [h20])
  have h0I : ¬ ((nm.length : Int) ≤ 20) := by omega
  go_enter Tryz.func35, Tryz.ntmps35
  go_wp2
  go_ret
  exact ⟨by rw [hb.out]; rfl, Below.refl _ _⟩
 have hcon := Tryz.strings_Trim_set (str nm) ⟨letters.toArray⟩ w (by rw [hsz.out]; omega) (by decide) letters_ascii
 have hb := hid (show mayB nm = (Lib.trimS nm letters == []) by
  unfold mayB
  simp only [h0, h20, decide_true, Bool.true_and]
  rw [Bool.eq_iff_iff, beq_iff_eq, trim_nil, List.all_eq_true])
 obtain ⟨t, ht⟩ : ∃ t, t = Lib.trimS nm letters := ⟨_, rfl⟩
 rw [← ht] at hb
 go_enter Tryz.func35, Tryz.ntmps35
 go_wp2_with fail
 refine hcon.mono ?_; clear hcon
 rintro e w' ⟨rfl, hB⟩
 rw [show (⟨(Lib.trimS (str nm).data.toList (⟨letters.toArray⟩ : ByteArray).data.toList).toArray⟩ : ByteArray) = str t by rw [ht]; rfl]
 have e1 := str_toList t
 have HB := hid hB
 clear hB ht
 go_wp2
 go_ret
 exact ⟨by rw [hb.out]; cases t <;> rfl, HB.out⟩
end Go.Proofs.YtakebdeldndaaaaGreatDoor
/- Maps of a string's kind whose values are held as they lie: sorted lists of names and values. -/
namespace Go.Proofs.YtakebdeldndaaaaGreatDoor
open Go Go.RowKit
set_option linter.unusedSimpArgs false
set_option linter.unusedVariables false
abbrev Raw := List (List UInt8 × Value)
def fileShape : Value → Bool
 | .agg cs => match cs.toList with
  | [.slice _ _ _, .int .i64 _] => true
  | _ => false
 | _ => false
theorem fileShape_inv {v : Value} (h : fileShape v = true) : ∃ A n c sf, v = .agg #[.slice A n c, .int .i64 sf] := by
 unfold fileShape at h
 split at h
 ·rename_i cs
  split at h
  ·rename_i A n c sf e
   exact ⟨A, n, c, sf, by rw [← e]⟩
  ·cases h
 ·cases h
def rawE : Value → Option (DataW Value × List MemPlace) := fun v => if fileShape v then some (.held v, []) else none
theorem rawE_mk {v : Value} (h : fileShape v = true) : rawE v = some (.held v, []) := by unfold rawE; rw [if_pos h]
theorem rawE_inv {v : Value} {y : DataW Value × List MemPlace} (h : rawE v = some y) : fileShape v = true ∧ y = (.held v, []) := by
 unfold rawE at h
 split at h
 ·rename_i hs; exact ⟨hs, (Option.some.inj h).symm⟩
 ·cases h
def rawL (G : Raw) : List (Lit × DataW Value) := G.map fun p => (.string p.1, .held p.2)
def insL (x : List UInt8 × Value) : Raw → Raw
 | [] => [x]
 | y :: r => if bytesBefore x.1 y.1 then x :: y :: r else y :: insL x r
def delL (nm : List UInt8) (G : Raw) : Raw := G.filter fun p => !(p.1 == nm)
def putL (nm : List UInt8) (v : Value) (G : Raw) : Raw := insL (nm, v) (delL nm G)
def atL (G : Raw) (nm : List UInt8) : Option Value := (G.find? (·.1 == nm)).map (·.2)
theorem rawL_ins (x : List UInt8 × Value) : ∀ G, DataW.insert (Lit.string x.1, DataW.held x.2) (rawL G) = rawL (insL x G)
 | [] => rfl
 | y :: r => by
  show DataW.insert _ ((Lit.string y.1, DataW.held y.2) :: rawL r) = _
  unfold DataW.insert insL
  show (if bytesBefore x.1 y.1 = true then _ else _) = _
  split
  ·rfl
  ·rw [rawL_ins x r]; rfl
theorem rawL_filter (nm : List UInt8) : ∀ G : Raw, (rawL G).filter (fun p => !p.1.sameKey (.string nm)) = rawL (delL nm G)
 | [] => rfl
 | y :: r => by
  show List.filter _ ((Lit.string y.1, DataW.held y.2) :: rawL r) = _
  unfold delL
  rw [List.filter_cons, List.filter_cons]
  have e : (!(Lit.sameKey (.string y.1) (.string nm))) = !(y.1 == nm) := rfl
  rw [e, rawL_filter nm r]
  split <;> rfl
theorem rawL_put (nm : List UInt8) (v : Value) (G : Raw) : (DataW.map (rawL G)).put (.string nm) (.held v) = .map (rawL (putL nm v G)) := by
 unfold DataW.put putL
 simp only
 rw [rawL_filter, rawL_ins (nm, v)]
theorem rawL_del (nm : List UInt8) (G : Raw) : (DataW.map (rawL G)).del (.string nm) = .map (rawL (delL nm G)) := by
 unfold DataW.del
 simp only
 rw [rawL_filter]
theorem rawL_find (nm : List UInt8) : ∀ G : Raw, (rawL G).find? (fun p => p.1.sameKey (.string nm)) = (G.find? (·.1 == nm)).map fun p => (.string p.1, .held p.2)
 | [] => rfl
 | y :: r => by
  show List.find? _ ((Lit.string y.1, DataW.held y.2) :: rawL r) = _
  rw [List.find?_cons, List.find?_cons, rawL_find nm r]
  have e : (Lit.sameKey (.string y.1) (.string nm)) = (y.1 == nm) := rfl
  rw [e]
  cases (y.1 == nm) <;> rfl
theorem rawL_at (nm : List UInt8) (G : Raw) (z : Value) : (DataW.map (rawL G)).atKey (.string nm) (.held z) = .held ((atL G nm).getD z) := by
 unfold DataW.atKey atL
 simp only
 rw [rawL_find]
 cases G.find? (·.1 == nm) <;> rfl
theorem rawL_has (nm : List UInt8) (G : Raw) : Maps.has (DataW.map (rawL G)) (.string nm) = (atL G nm).isSome := by
 unfold Maps.has atL
 simp only
 induction G with
 | nil => rfl
 | cons y r ih =>
  show List.any ((Lit.string y.1, DataW.held y.2) :: rawL r) _ = _
  rw [List.any_cons, List.find?_cons]
  have e : (Lit.sameKey (.string y.1) (.string nm)) = (y.1 == nm) := rfl
  rw [e, ih]
  cases (y.1 == nm) <;> rfl
theorem rawL_length (G : Raw) : (rawL G).length = G.length := by simp [rawL]
def MapAt (w : World) (m : Nat) (G : Raw) : Prop := w.ownsMap Tryz.prog 9 rawE m G.length (.map (rawL G))
theorem MapAt.of {w : World} {m n : Nat} {G : Raw} (h : w.ownsMap Tryz.prog 9 rawE m n (.map (rawL G))) : MapAt w m G := by
 obtain ⟨es, clock, h1, h2, h3, h4⟩ := h
 refine ⟨es, clock, h1, h2, ?_, h4⟩
 have := congrArg (fun d : DataW Value => match d with | .map l => l.length | _ => 0) h4
 simp only [rawL_length] at this
 rw [this]
 have e2 : ((es.toList.map (WideElems.rg Tryz.prog 9 rawE)).foldr DataW.insert []).length = es.size := by rw [length_sorted]; simp
 omega
theorem MapAt.made (w : World) : MapAt (w.alloc (.map #[] 0)) w.heap.size [] := World.ownsMap_made w _ _ _
theorem MapAt.lt {w : World} {m : Nat} {G : Raw} (h : MapAt w m G) : m < w.heap.size := World.ownsMap.lt h
theorem key_str (nm : List UInt8) (h : nm.length ≤ 9223372036854775807) : keyOf Tryz.prog 9 (.string (str nm)) = some (.string nm) := by
 have := WideMaps.keyOf_string_mk (P := Tryz.prog) (k := 9) Tryz.underlying9 (s := str nm) (by rw [str_size]; simp only [maxLen]; omega)
 exact this
theorem keyedS : Maps.Keyed Tryz.prog 9 := Maps.string_keyed Tryz.underlying9
def zfile : Value := .agg #[.slice none 0 0, .int .i64 0]
theorem zero_file : ∀ w, (zeroValue 81).run Tryz.prog w = .ok zfile w := by
 exact (zero_of_info (show (Tryz.prog.info? 81).map (fun i => (i.zero, i.size)) = some (some zfile, 2) by kernel_rfl)).1
theorem MapAt.look {w : World} {m : Nat} {G : Raw} (h : MapAt w m G) (nm : List UInt8) (hn : nm.length ≤ 9223372036854775807) :
  (Instr.lookup 74 (.map (some m)) (.string (str nm)) true).run Tryz.prog w = .ok (.tuple #[(atL G nm).getD zfile, .bool (atL G nm).isSome]) w := by
 obtain ⟨v, ps, h1, h2⟩ := World.ownsMap.look_ok h keyedS Tryz.underlying74 (zero_file w) (zd := .held zfile) (zp := []) rfl (key_str nm hn)
 rw [rawL_has] at h1
 rw [rawL_at] at h2
 have h3 := (rawE_inv h2).2
 simp only [Prod.mk.injEq, DataW.held.injEq] at h3
 rw [h1, h3.1]
theorem MapAt.shape {w : World} {m : Nat} {G : Raw} (h : MapAt w m G) (nm : List UInt8) (hn : nm.length ≤ 9223372036854775807) : fileShape ((atL G nm).getD zfile) = true := by
 obtain ⟨v, ps, h1, h2⟩ := World.ownsMap.look_ok h keyedS Tryz.underlying74 (zero_file w) (zd := .held zfile) (zp := []) rfl (key_str nm hn)
 rw [rawL_at] at h2
 have h3 := rawE_inv h2
 have h4 := h3.2
 simp only [Prod.mk.injEq, DataW.held.injEq] at h4
 rw [h4.1]; exact h3.1
theorem MapAt.store {w : World} {m : Nat} {G : Raw} (h : MapAt w m G) (nm : List UInt8) (v : Value) (hv : fileShape v = true) (hn : nm.length ≤ 9223372036854775807) (hG : G.length < 1000000) :
  ∃ w', (Instr.mapUpdate 74 (.map (some m)) (.string (str nm)) v).run Tryz.prog w = .ok () w' ∧ MapAt w' m (putL nm v G) ∧ w.mapTurned w' m := by
 obtain ⟨w', h1, h2, h3⟩ := World.ownsMap.store h keyedS Tryz.underlying74 (by simp only [maxLen]; omega) (key_str nm hn) (val := v) (d := .held v) (ps := []) (rawE_mk hv)
 rw [rawL_put] at h2
 exact ⟨w', h1, .of h2, h3⟩
theorem MapAt.drop {w : World} {m : Nat} {G : Raw} (h : MapAt w m G) (nm : List UInt8) (hn : nm.length ≤ 9223372036854775807) (ty : TypeId) :
  ∃ w', (Builtin.delete_ #[74, 9] ty #[.map (some m), .string (str nm)]).run Tryz.prog w = .ok (.tuple #[]) w' ∧ MapAt w' m (delL nm G) ∧ w.mapTurned w' m := by
 obtain ⟨w', h1, h2, h3⟩ := World.ownsMap.drop h keyedS Tryz.underlying74 (key_str nm hn) ty
 rw [rawL_del] at h2
 exact ⟨w', h1, .of h2, h3⟩
theorem MapAt.len {w : World} {m : Nat} {G : Raw} (h : MapAt w m G) (ty : TypeId) : (Builtin.len_ #[74] ty #[.map (some m)]).run Tryz.prog w = .ok (.int .i64 (G.length : Int)) w := by
 have := World.ownsMap.len h Tryz.underlying74 ty
 rw [this]
 show Result.ok (Value.int .i64 ((rawL G).length : Int)) w = _
 rw [rawL_length]
end Go.Proofs.YtakebdeldndaaaaGreatDoor
/- A disk in memory: what it is, what leaves it be; the fuse. -/
namespace Go.Proofs.YtakebdeldndaaaaGreatDoor
open Go Go.RowKit
set_option linter.unusedSimpArgs false
set_option linter.unusedVariables false
structure File where
 b : List UInt8
 safe : Nat
abbrev Files := List (List UInt8 × File)
def FileV (w : World) (S : Nat → Prop) (v : Value) (f : File) : Prop :=
 ∃ A c, v = .agg #[.slice A f.b.length c, .int .i64 (f.safe : Int)] ∧ f.b.length ≤ c ∧ c ≤ 9223372036854775807 ∧ f.safe ≤ f.b.length ∧ f.b.length ≤ 65536 ∧ RK w (fun k => k < w.heap.size ∧ ¬ S k) A (bvs f.b)
def Held (w : World) (S : Nat → Prop) : Raw → Files → Prop
 | [], [] => True
 | p :: G, f :: F => p.1 = f.1 ∧ FileV w S p.2 f.2 ∧ Held w S G F
 | _, _ => False
theorem FileV.kept {w w' : World} {S : Nat → Prop} {v : Value} {f : File} (h : FileV w S v f) {d m : Nat} (hk : Kept2 d m w w') (hd : S d) (hm : S m) : FileV w' S v f := by
 obtain ⟨A, c, h1, h2, h3, h4, h5, h6⟩ := h
 refine ⟨A, c, h1, h2, h3, h4, h5, (h6.ext fun k hk' => hk.block k hk'.1 ?_ ?_).mono fun k hk' => ⟨Nat.lt_of_lt_of_le hk'.1 hk.size, hk'.2⟩⟩
 ·rintro rfl; exact hk'.2 hd
 ·rintro rfl; exact hk'.2 hm
theorem Held.kept {w w' : World} {S : Nat → Prop} {d m : Nat} (hk : Kept2 d m w w') (hd : S d) (hm : S m) : ∀ {G : Raw} {F : Files}, Held w S G F → Held w' S G F
 | [], [], _ => trivial
 | _ :: _, _ :: _, ⟨h1, h2, h3⟩ => ⟨h1, h2.kept hk hd hm, h3.kept hk hd hm⟩
theorem Held.length {w : World} {S : Nat → Prop} : ∀ {G : Raw} {F : Files}, Held w S G F → G.length = F.length
 | [], [], _ => rfl
 | _ :: _, _ :: _, ⟨_, _, h⟩ => by simp [h.length]
structure DiskS (w : World) (d m : Nat) (q l : Int) : Prop where
 quota : w.cell? ⟨d, 0, none⟩ = some (.int .i64 q)
 left : w.cell? ⟨d, 1, none⟩ = some (.int .i64 l)
 files : w.cell? ⟨d, 2, none⟩ = some (.map (some m))
 free : w.frozen? ⟨d, 1, none⟩ = false
theorem DiskS.of_block {w w' : World} {d m : Nat} {q l : Int} (h : DiskS w d m q l) (hb : w'.heap[d]? = w.heap[d]?) : DiskS w' d m q l :=
 ⟨(World.cell?_of_block (a := ⟨d, 0, none⟩) hb).trans h.quota, (World.cell?_of_block (a := ⟨d, 1, none⟩) hb).trans h.left, (World.cell?_of_block (a := ⟨d, 2, none⟩) hb).trans h.files, (World.frozen?_of_block (a := ⟨d, 1, none⟩) hb).trans h.free⟩
theorem DiskS.lt {w : World} {d m : Nat} {q l : Int} (h : DiskS w d m q l) : d < w.heap.size := World.block_lt_of_cell? w ⟨d, 0, none⟩ h.quota
def burnL (l : Int) : Int := if 0 < l then l - 1 else l
end Go.Proofs.YtakebdeldndaaaaGreatDoor
/- The walk of disk.known. -/
namespace Go.Proofs.YtakebdeldndaaaaGreatDoor
open Go Go.RowKit
set_option linter.unusedSimpArgs false
set_option linter.unusedVariables false
def atF (F : Files) (nm : List UInt8) : Option File := (F.find? (·.1 == nm)).map (·.2)
theorem Held.at_ {w : World} {S : Nat → Prop} (nm : List UInt8) : ∀ {G : Raw} {F : Files}, Held w S G F → (atF F nm = none ∧ atL G nm = none) ∨ ∃ f v, atF F nm = some f ∧ atL G nm = some v ∧ FileV w S v f
 | [], [], _ => .inl ⟨rfl, rfl⟩
 | p :: G, f :: F, ⟨h1, h2, h3⟩ => by
  have ih := h3.at_ nm
  unfold atF atL at ih ⊢
  rw [List.find?_cons, List.find?_cons, h1]
  cases (f.1 == nm)
  ·exact ih
  ·exact .inr ⟨f.2, p.2, rfl, rfl, h2⟩
/-! ### The raw level: the struct and the map alone; the files' bytes are carried by Held.kept from the first world on -/
theorem burnt_raw {w : World} {d m : Nat} {q l : Int} {G : Raw} (h : DiskS w d m q l) (hG : MapAt w m G) (hne : d ≠ m) (hl : -9223372036854775808 ≤ l ∧ l ≤ 9223372036854775807) :
  Calls Tryz.prog 72 #[.pointer (some ⟨d, 0, none⟩)] w fun e w' => e = .returned (.bool (decide (l = 0))) ∧ DiskS w' d m q (burnL l) ∧ MapAt w' m G ∧ w.grownBy w' (some d) := by
 have H := hid h
 have HG := hid hG
 have c1 := h.left
 have c2 := h.free
 have hfus : Hid (DiskS (w.setCell ⟨d, 1, none⟩ (.int .i64 (l - 1))) d m q (l - 1) ∧ MapAt (w.setCell ⟨d, 1, none⟩ (.int .i64 (l - 1))) m G ∧ w.grownBy (w.setCell ⟨d, 1, none⟩ (.int .i64 (l - 1))) (some d)) := by
  refine ⟨⟨?_, ?_, ?_, ?_⟩, ?_, ?_⟩
  ·exact (World.cell?_setCell_other (w := w) (a := ⟨d, 1, none⟩) (b := ⟨d, 0, none⟩) (v := .int .i64 (l - 1)) (h := by simp)).trans h.quota
  ·exact World.cell?_setCell_same (w := w) (a := ⟨d, 1, none⟩) (h := h.left) ..
  ·exact (World.cell?_setCell_other (w := w) (a := ⟨d, 1, none⟩) (b := ⟨d, 2, none⟩) (v := .int .i64 (l - 1)) (h := by simp)).trans h.files
  ·simp only [World.frozen?_setCell]; exact h.free
  ·obtain ⟨es, clock, e1, e2⟩ := hG
   exact ⟨es, clock, by rw [heap_setCell_other w ⟨d, 1, none⟩ m _ (fun e => hne e.symm)]; exact e1, e2⟩
  ·exact ⟨rfl, rfl, rfl, by simp, fun k _ hk => heap_setCell_other w ⟨d, 1, none⟩ k _ (fun e => hk (by rw [e]))⟩
 have hwr : 0 < l → IntKind.i64.wrap (l - 1) = l - 1 := fun h0 => by rw [IntKind.wrap_i64]; omega
 have hrefl : Hid (w.grownBy w (some d)) := ⟨rfl, rfl, rfl, Nat.le_refl _, fun _ _ _ => rfl⟩
 clear h hG
 unfold burnL
 by_cases h0 : l = 0
 ·subst h0
  go_enter Tryz.func72, Tryz.ntmps72
  go_wp2
  go_ret
  exact ⟨rfl, H.out, HG.out, hrefl.out⟩
 have hne' : (l == 0) = false := by rw [beq_eq_false_iff_ne]; exact h0
 by_cases hp : 0 < l
 ·have hw2 := hwr hp
  clear hwr
  go_enter Tryz.func72, Tryz.ntmps72
  go_wp2
  go_ret
  exact ⟨rfl, hfus.out.1, hfus.out.2.1, hfus.out.2.2⟩
 ·clear hwr
  go_enter Tryz.func72, Tryz.ntmps72
  go_wp2
  go_ret
  exact ⟨rfl, by first | exact H.out | (rw [if_neg (by omega)]; exact H.out), HG.out, hrefl.out⟩
def knownE (l : Int) (G : Raw) (nm : List UInt8) : Int := if l = 0 then 14 else if (atL G nm).isSome then 0 else 11
def knownV (l : Int) (G : Raw) (nm : List UInt8) : Value := if l = 0 then zfile else (atL G nm).getD zfile
theorem DiskS.ext {w w' : World} {d m : Nat} {q l : Int} (h : DiskS w d m q l) (hE : Ext w w') : DiskS w' d m q l := h.of_block (hE.block d h.lt)
theorem MapAt.ext {w w' : World} {m : Nat} {G : Raw} (h : MapAt w m G) (hE : Ext w w') : MapAt w' m G := by
 have hlt := h.lt
 obtain ⟨es, clock, e1, e2⟩ := h
 exact ⟨es, clock, by rw [hE.block m hlt]; exact e1, e2⟩
end Go.Proofs.YtakebdeldndaaaaGreatDoor
/- The walk of disk.known, at the raw level. -/
namespace Go.Proofs.YtakebdeldndaaaaGreatDoor
open Go Go.RowKit
set_option linter.unusedSimpArgs false
set_option linter.unusedVariables false
theorem DiskS.set {w : World} {d m : Nat} {q l : Int} (h : DiskS w d m q l) (a : Addr) (x : Value) (hg : d ≠ a.block) : DiskS (w.setCell a x) d m q l := h.of_block (heap_setCell_other w a d x hg)
theorem MapAt.set {w : World} {m : Nat} {G : Raw} (h : MapAt w m G) (a : Addr) (x : Value) (hg : m ≠ a.block) : MapAt (w.setCell a x) m G := by
 obtain ⟨es, clock, e1, e2⟩ := h
 exact ⟨es, clock, by rw [heap_setCell_other w a m x hg]; exact e1, e2⟩
theorem Kept2.set {d m : Nat} {w w1 : World} (h : Kept2 d m w w1) (a : Addr) (x : Value) (hg : w.heap.size ≤ a.block) : Kept2 d m w (w1.setCell a x) :=
 ⟨h.os, h.tape, h.output, by have := h.size; simpa using this, fun k hk h1 h2 => (heap_setCell_other w1 a k x (by omega)).trans (h.block k hk h1 h2)⟩
set_option maxRecDepth 100000 in
set_option maxHeartbeats 1000000 in
theorem known_raw {w : World} {d m : Nat} {q l : Int} {G : Raw} (h : DiskS w d m q l) (hG : MapAt w m G) (hne : d ≠ m) (hl : -9223372036854775808 ≤ l ∧ l ≤ 9223372036854775807) (nm : List UInt8) (hn : nm.length ≤ 9223372036854775807) :
  Calls Tryz.prog 34 #[.pointer (some ⟨d, 0, none⟩), .string (str nm)] w fun e w' => e = .returned (.tuple #[knownV l G nm, .int .i64 (knownE l G nm)]) ∧ DiskS w' d m q (burnL l) ∧ MapAt w' m G ∧ Kept2 d m w w' := by
 have H := hid h
 have HG := hid hG
 have hsh : ∀ v, atL G nm = some v → ∃ A n c sf, v = .agg #[.slice A n c, .int .i64 sf] := fun v hv => by
  have := hG.shape nm hn
  rw [hv] at this
  exact fileShape_inv this
 have hdlt := h.lt
 have hmlt := hG.lt
 clear h hG
 have hzf := zero_file
 unfold zfile at hzf
 go_enter Tryz.func34, Tryz.ntmps34
 go_wp2_with fail
 have E0 := hid ((Below.refl w.heap.size w).alloc (Nat.le_refl _) (.cells #[.slice none 0 0, .int .i64 0] 81))
 have hcc := burnt_raw (H.out.ext E0.out) (HG.out.ext E0.out) hne hl
 refine hcc.mono ?_; clear hcc
 rintro e w1 ⟨rfl, h1, hg1, k1⟩
 have H1 := hid h1; have HG1 := hid hg1
 have K1 := hid ((Kept2.of_ext (d := d) (m := m) E0.out).trans (Kept2.of_grown k1 (.inl rfl)))
 have hb : w1.heap[w.heap.size]? = some (.cells #[.slice none 0 0, .int .i64 0] 81) :=
  (k1.block w.heap.size (by simp) (by simp; omega)).trans (heap_alloc_last w _)
 have r0 : w1.cell? ⟨w.heap.size, 0, none⟩ = some (.slice none 0 0) := by rw [cell_of_row _ _ _ _ _ _ hb]; rfl
 have r1 : w1.cell? ⟨w.heap.size, 1, none⟩ = some (.int .i64 0) := by rw [cell_of_row _ _ _ _ _ _ hb]; rfl
 have f0 : w1.frozen? ⟨w.heap.size, 0, none⟩ = false := by simp [World.frozen?, hb]
 have f1 : w1.frozen? ⟨w.heap.size, 1, none⟩ = false := by simp [World.frozen?, hb]
 have Hb := hid hb
 clear h1 hg1 k1 hb
 by_cases h0 : l = 0
 ·have hd := hid (decide_eq_true h0)
  rw [hd.out]
  go_wp2
  (try simp only [Exit.inBlock, Exit.then])
  refine bodyPost_ret (v := .tuple #[zfile, .int .i64 14]) (by simp [results, Tryz.results34, go_sem, r0, r1, zfile]) rfl ?_
  refine ⟨?_, ?_, ?_, ?_⟩
  ·unfold knownV knownE
   rw [if_pos h0, if_pos h0]
  ·exact (H1.out.set _ _ (by show d ≠ w.heap.size; omega)).set _ _ (by show d ≠ w.heap.size; omega)
  ·exact (HG1.out.set _ _ (by show m ≠ w.heap.size; omega)).set _ _ (by show m ≠ w.heap.size; omega)
  ·exact (K1.out.set _ _ (Nat.le_refl _)).set _ _ (Nat.le_refl _)
 have hd := hid (decide_eq_false h0)
 rw [hd.out]
 have hlk := HG1.out.look nm hn
 have c2 := H1.out.files
 have hlt1 : w.heap.size < w1.heap.size := by
  have := Hb.out
  exact (Array.getElem?_eq_some_iff.1 this).1
 have rr0 : ∀ o, (w1.alloc o).cell? ⟨w.heap.size, 0, none⟩ = some (.slice none 0 0) := fun o => by rw [cell_of_row _ _ _ _ _ _ ((heap_alloc_old _ _ hlt1).trans Hb.out)]; rfl
 have rr1 : ∀ o, (w1.alloc o).cell? ⟨w.heap.size, 1, none⟩ = some (.int .i64 0) := fun o => by rw [cell_of_row _ _ _ _ _ _ ((heap_alloc_old _ _ hlt1).trans Hb.out)]; rfl
 have ff0 : ∀ o, (w1.alloc o).frozen? ⟨w.heap.size, 0, none⟩ = false := fun o => by simp [World.frozen?, (heap_alloc_old _ _ hlt1).trans Hb.out]
 have ff1 : ∀ o, (w1.alloc o).frozen? ⟨w.heap.size, 1, none⟩ = false := fun o => by simp [World.frozen?, (heap_alloc_old _ _ hlt1).trans Hb.out]
 have hE1 : ∀ o, Hid (DiskS (w1.alloc o) d m q (burnL l) ∧ MapAt (w1.alloc o) m G ∧ Kept2 d m w (w1.alloc o)) := fun o => by
  have hE : Ext w1 (w1.alloc o) := (Below.refl _ _).alloc (Nat.le_refl _) o
  exact ⟨H1.out.ext hE, HG1.out.ext hE, K1.out.trans (Kept2.of_ext hE)⟩
 cases hat : atL G nm with
 | none =>
  rw [hat] at hlk
  simp only [Option.getD_none, Option.isSome_none, zfile] at hlk
  have Hat := hid hat; clear hat
  go_wp2
  (try simp only [Exit.inBlock, Exit.then])
  have e0 : ((w1.setCell ⟨w.heap.size, 0, none⟩ (.slice none 0 0)).setCell ⟨w.heap.size, 1, none⟩ (.int .i64 0)).cell? ⟨w.heap.size, 0, none⟩ = some (.slice none 0 0) := (World.cell?_setCell_other (w := w1.setCell ⟨w.heap.size, 0, none⟩ (.slice none 0 0)) (a := ⟨w.heap.size, 1, none⟩) (b := ⟨w.heap.size, 0, none⟩) (v := (.int .i64 0)) (h := by simp)).trans (World.cell?_setCell_same (w := w1) (a := ⟨w.heap.size, 0, none⟩) (h := r0) ..)
  have e1 : ((w1.setCell ⟨w.heap.size, 0, none⟩ (.slice none 0 0)).setCell ⟨w.heap.size, 1, none⟩ (.int .i64 0)).cell? ⟨w.heap.size, 1, none⟩ = some (.int .i64 0) := World.cell?_setCell_same (w := w1.setCell ⟨w.heap.size, 0, none⟩ (.slice none 0 0)) (a := ⟨w.heap.size, 1, none⟩) (h := (World.cell?_setCell_other (w := w1) (a := ⟨w.heap.size, 0, none⟩) (b := ⟨w.heap.size, 1, none⟩) (v := (.slice none 0 0)) (h := by simp)).trans r1) ..
  have eD := (H1.out.set ⟨w.heap.size, 0, none⟩ (.slice none 0 0) (by show d ≠ w.heap.size; omega)).set ⟨w.heap.size, 1, none⟩ (.int .i64 0) (by show d ≠ w.heap.size; omega)
  have eM := (HG1.out.set ⟨w.heap.size, 0, none⟩ (.slice none 0 0) (by show m ≠ w.heap.size; omega)).set ⟨w.heap.size, 1, none⟩ (.int .i64 0) (by show m ≠ w.heap.size; omega)
  have eK := (K1.out.set ⟨w.heap.size, 0, none⟩ (.slice none 0 0) (Nat.le_refl _)).set ⟨w.heap.size, 1, none⟩ (.int .i64 0) (Nat.le_refl _)
  generalize (w1.setCell ⟨w.heap.size, 0, none⟩ (.slice none 0 0)).setCell ⟨w.heap.size, 1, none⟩ (.int .i64 0) = W at e0 e1 eD eM eK ⊢
  have hE : Ext W (W.alloc (.cells #[(.slice none 0 0), (.int .i64 0)] 81)) := (Below.refl _ _).alloc (Nat.le_refl _) _
  have e0' := cell_below hE e0
  have e1' := cell_below hE e1
  generalize W.alloc (.cells #[(.slice none 0 0), (.int .i64 0)] 81) = W2 at hE e0' e1' ⊢
  refine bodyPost_ret (v := .tuple #[zfile, .int .i64 11]) (by simp [results, Tryz.results34, go_sem, e0', e1', zfile]) rfl ?_
  refine ⟨?_, eD.ext hE, eM.ext hE, eK.trans (Kept2.of_ext hE)⟩
  unfold knownV knownE
  rw [if_neg h0, if_neg h0, Hat.out]; rfl
 | some v =>
  obtain ⟨A, n, c, sf, rfl⟩ := hsh v hat
  rw [hat] at hlk
  simp only [Option.getD_some, Option.isSome_some] at hlk
  have Hat := hid hat; clear hat
  go_wp2
  (try simp only [Exit.inBlock, Exit.then])
  have e0 : ((w1.setCell ⟨w.heap.size, 0, none⟩ (.slice A n c)).setCell ⟨w.heap.size, 1, none⟩ (.int .i64 sf)).cell? ⟨w.heap.size, 0, none⟩ = some (.slice A n c) := (World.cell?_setCell_other (w := w1.setCell ⟨w.heap.size, 0, none⟩ (.slice A n c)) (a := ⟨w.heap.size, 1, none⟩) (b := ⟨w.heap.size, 0, none⟩) (v := (.int .i64 sf)) (h := by simp)).trans (World.cell?_setCell_same (w := w1) (a := ⟨w.heap.size, 0, none⟩) (h := r0) ..)
  have e1 : ((w1.setCell ⟨w.heap.size, 0, none⟩ (.slice A n c)).setCell ⟨w.heap.size, 1, none⟩ (.int .i64 sf)).cell? ⟨w.heap.size, 1, none⟩ = some (.int .i64 sf) := World.cell?_setCell_same (w := w1.setCell ⟨w.heap.size, 0, none⟩ (.slice A n c)) (a := ⟨w.heap.size, 1, none⟩) (h := (World.cell?_setCell_other (w := w1) (a := ⟨w.heap.size, 0, none⟩) (b := ⟨w.heap.size, 1, none⟩) (v := (.slice A n c)) (h := by simp)).trans r1) ..
  have eD := (H1.out.set ⟨w.heap.size, 0, none⟩ (.slice A n c) (by show d ≠ w.heap.size; omega)).set ⟨w.heap.size, 1, none⟩ (.int .i64 sf) (by show d ≠ w.heap.size; omega)
  have eM := (HG1.out.set ⟨w.heap.size, 0, none⟩ (.slice A n c) (by show m ≠ w.heap.size; omega)).set ⟨w.heap.size, 1, none⟩ (.int .i64 sf) (by show m ≠ w.heap.size; omega)
  have eK := (K1.out.set ⟨w.heap.size, 0, none⟩ (.slice A n c) (Nat.le_refl _)).set ⟨w.heap.size, 1, none⟩ (.int .i64 sf) (Nat.le_refl _)
  generalize (w1.setCell ⟨w.heap.size, 0, none⟩ (.slice A n c)).setCell ⟨w.heap.size, 1, none⟩ (.int .i64 sf) = W at e0 e1 eD eM eK ⊢
  have hE : Ext W (W.alloc (.cells #[(.slice A n c), (.int .i64 sf)] 81)) := (Below.refl _ _).alloc (Nat.le_refl _) _
  have e0' := cell_below hE e0
  have e1' := cell_below hE e1
  generalize W.alloc (.cells #[(.slice A n c), (.int .i64 sf)] 81) = W2 at hE e0' e1' ⊢
  refine bodyPost_ret (v := .tuple #[(.agg #[.slice A n c, .int .i64 sf]), .int .i64 0]) (by simp [results, Tryz.results34, go_sem, e0', e1', zfile]) rfl ?_
  refine ⟨?_, eD.ext hE, eM.ext hE, eK.trans (Kept2.of_ext hE)⟩
  unfold knownV knownE
  rw [if_neg h0, if_neg h0, Hat.out]; rfl
end Go.Proofs.YtakebdeldndaaaaGreatDoor
/- The sum over a map's entries, as a range comes to it; names are distinct. Plain. -/
namespace Go.Proofs.YtakebdeldndaaaaGreatDoor
open Go Go.RowKit
set_option linter.unusedSimpArgs false
set_option linter.unusedVariables false
def lenV : Value → Nat
 | .agg cs => match cs.toList with
  | .slice _ n _ :: _ => n
  | _ => 0
 | _ => 0
def wgt : Bool → Value → Nat
 | true, _ => 0
 | false, v => lenV v
def sumL (left : Lit → Bool) (G : Raw) : Nat := (G.map fun p => wgt (left (.string p.1)) p.2).sum
theorem same_str (a b : List UInt8) : Lit.sameKey (.string a) (.string b) = (a == b) := rfl
theorem sumL_other (left : Lit → Bool) (nm : List UInt8) : ∀ G : Raw, (∀ p ∈ G, p.1 ≠ nm) → sumL (fun z => left z && !z.sameKey (.string nm)) G = sumL left G
 | [], _ => rfl
 | p :: G, h => by
  have h1 : (p.1 == nm) = false := beq_eq_false_iff_ne.2 (h p (by simp))
  have ih := sumL_other left nm G fun q hq => h q (by simp [hq])
  unfold sumL at ih ⊢
  simp only [List.map_cons, List.sum_cons, same_str] at ih ⊢
  rw [ih, h1]
  cases left (.string p.1) <;> rfl
theorem sumL_step (left : Lit → Bool) (nm : List UInt8) (v : Value) : ∀ G : Raw, (G.map (·.1)).Nodup → atL G nm = some v → left (.string nm) = true → sumL (fun z => left z && !z.sameKey (.string nm)) G = sumL left G + lenV v
 | [], _, h, _ => by simp [atL] at h
 | p :: G, hn, h, hl => by
  rw [List.map_cons, List.nodup_cons] at hn
  by_cases he : p.1 = nm
  ·have hv : v = p.2 := by
    unfold atL at h
    rw [List.find?_cons, beq_iff_eq.2 he] at h
    simpa using h.symm
   have ho := sumL_other left nm G fun q hq e => hn.1 (List.mem_map.2 ⟨q, hq, by rw [e, he]⟩)
   unfold sumL at ho ⊢
   simp only [List.map_cons, List.sum_cons, same_str] at ho ⊢
   rw [ho, beq_iff_eq.2 he, he, hl, hv]
   simp only [wgt, Bool.not_true, Bool.and_false]
   omega
  ·have hf : (p.1 == nm) = false := beq_eq_false_iff_ne.2 he
   have ih := sumL_step left nm v G hn.2 (by unfold atL at h ⊢; rw [List.find?_cons, hf] at h; exact h) hl
   unfold sumL at ih ⊢
   simp only [List.map_cons, List.sum_cons, same_str] at ih ⊢
   rw [ih, hf]
   have : wgt (left (.string p.1) && !false) p.2 = wgt (left (.string p.1)) p.2 := by cases left (.string p.1) <;> rfl
   omega
theorem sumL_done (left : Lit → Bool) (G : Raw) (h : ∀ kl, left kl = false) : sumL left G = (G.map fun p => lenV p.2).sum := by
 unfold sumL
 simp [h, wgt]
theorem sumL_start (G : Raw) : sumL (Maps.has (DataW.map (rawL G))) G = 0 := by
 have h : ∀ p ∈ G, Maps.has (DataW.map (rawL G)) (.string p.1) = true := by
  intro p hp
  rw [rawL_has]
  unfold atL
  rw [Option.isSome_map, List.find?_isSome]
  exact ⟨p, hp, by simp⟩
 generalize Maps.has (DataW.map (rawL G)) = f at h
 unfold sumL
 induction G with
 | nil => rfl
 | cons p G ih =>
  rw [List.map_cons, List.sum_cons, h p (by simp), ih fun q hq => h q (by simp [hq])]; rfl
theorem MapAt.nodup {w : World} {m : Nat} {G : Raw} (h : MapAt w m G) : (G.map (·.1)).Nodup := by
 obtain ⟨es, e, hp⟩ := World.ownsMap.tidy h keyedS
 simp only [DataW.map.injEq] at e
 subst e
 unfold rawL at hp
 rw [List.pairwise_map] at hp
 rw [List.nodup_iff_pairwise_ne, List.pairwise_map]
 exact hp.imp fun {a b} hab e => hab (by simp [e])
end Go.Proofs.YtakebdeldndaaaaGreatDoor
/- The walk of disk.Used. -/
namespace Go.Proofs.YtakebdeldndaaaaGreatDoor
open Go Go.RowKit
set_option linter.unusedSimpArgs false
set_option linter.unusedVariables false
abbrev FileQ := Option Addr × Nat × Nat × Int
def mkFile (f : FileQ) : Value := .agg #[.slice f.1 f.2.1 f.2.2.1, .int .i64 f.2.2.2]
theorem invFile (v : Value) (y : DataW Value × List MemPlace) (h : rawE v = some y) : ∃ c, v = mkFile c := by
 obtain ⟨A, n, c, sf, rfl⟩ := fileShape_inv (rawE_inv h).1
 exact ⟨(A, n, c, sf), rfl⟩
theorem invName (key : Value) (kl : Lit) (h : keyOf Tryz.prog 9 key = some kl) : ∃ nm : List UInt8, key = .string (str nm) := by
 obtain ⟨s, rfl, -, -⟩ := WideMaps.string_of_keyOf Tryz.underlying9 h
 exact ⟨s.data.toList, rfl⟩
theorem name_lit (nm : List UInt8) (kl : Lit) (h : keyOf Tryz.prog 9 (.string (str nm)) = some kl) : kl = .string nm := by
 obtain ⟨s, e, rfl, -⟩ := WideMaps.string_of_keyOf Tryz.underlying9 h
 simp only [Value.string.injEq] at e
 rw [← e]; rfl
theorem sumL_le (left : Lit → Bool) : ∀ G : Raw, sumL left G ≤ (G.map fun p => lenV p.2).sum
 | [] => Nat.le_refl _
 | p :: G => by
  have ih := sumL_le left G
  have h1 : wgt (left (.string p.1)) p.2 ≤ lenV p.2 := by cases left (.string p.1) <;> simp [wgt]
  unfold sumL at ih ⊢
  rw [List.map_cons, List.sum_cons, List.map_cons, List.sum_cons]
  omega
def total (G : Raw) : Nat := (G.map fun p => lenV p.2).sum
set_option maxRecDepth 100000 in
set_option maxHeartbeats 2000000 in
theorem used_raw {w : World} {d m : Nat} {q l : Int} {G : Raw} (h : DiskS w d m q l) (hG : MapAt w m G) (hsum : total G ≤ 1000000000000) :
  Calls Tryz.prog 36 #[.pointer (some ⟨d, 0, none⟩)] w fun e w' => e = .returned (.int .i64 (total G : Int)) ∧ Ext w w' := by
 have H := hid h
 have HG := hid hG
 have c2 := h.files
 have hm := hG.lt
 have hd := h.lt
 have hzf := zero_file
 unfold zfile at hzf
 have Hnd := hid hG.nodup
 clear h hG
 go_enter Tryz.func36, Tryz.ntmps36
 go_wp2_with (at_range; refine wpList_range_own w rfl (.tmp 9) 74 rfl 9 81 keyedS Tryz.underlying74 rawE m G.length (.map (rawL G)) rfl HG.out ?_; intro w1 hr1 hg1 hs1; go_frame)
 have hE1 : Ext w w1 := ⟨hg1.os, hg1.tape, hg1.output, hg1.size, fun k hk => hg1.block k hk (by simp)⟩
 go_loopw [3] (fun n wr => ∃ (left : Lit → Bool) (cnt : Nat), n = .int .i64 (sumL left G : Int) ∧ wr.ranges Tryz.prog 9 rawE m w.heap.size G.length (.map (rawL G)) left cnt ∧ Hid (Ext w wr)) (fun _ wr => wr.rangeLeft m w.heap.size)
 case atStart =>
  exact ⟨_, _, by rw [sumL_start]; rfl, hr1, hE1⟩
 case round =>
  obtain ⟨left, cnt, rfl, hrg, HE⟩ := hrel
  obtain ⟨T, hT⟩ : ∃ T, T = sumL left G := ⟨_, rfl⟩
  rw [← hT]
  have HT := hid hT; clear hT
  go_wp2_with (at_next; refine wpList_next_ranges _ rfl (.tmp 10) rfl 9 keyedS rawE (fun nm : List UInt8 => .string (str nm)) mkFile invName invFile m w.heap.size G.length (.map (rawL G)) left cnt rfl hrg ?_ ?_)
  ·intro hc0 hl0
   have hdone := sumL_done left G hl0
   have Hd := hid hdone; clear hdone
   go_wp2
   go_ret
   exact ⟨by rw [HT.out, Hd.out]; rfl, HE.out⟩
  ·intro nm A n c sf kl y1 y2 w2 cnt2 hkey hlk hy hat hrg2 hlt hg2 hs2 hen
   have hkl := name_lit nm kl hkey
   subst hkl
   have hy2 := (rawE_inv hy).2
   simp only [Prod.mk.injEq] at hy2
   obtain ⟨rfl, rfl⟩ := hy2
   have hat1 : atL G nm = some (mkFile (A, n, c, sf)) := by
    have a1 := hat (.held zfile)
    have a2 := hat .nil
    rw [rawL_at] at a1
    simp only [DataW.held.injEq] at a1
    cases hq : atL G nm with
    | none =>
     exfalso
     have hf : (G.find? (·.1 == nm)) = none := by unfold atL at hq; simpa using hq
     unfold DataW.atKey at a2
     simp only at a2
     rw [rawL_find, hf] at a2
     cases a2
    | some v => rw [hq] at a1; exact congrArg some a1
   have hstep := sumL_step left nm _ G Hnd.out hat1 hlk
   rw [← HT.out] at hstep
   have hmk : mkFile (A, n, c, sf) = .agg #[.slice A n c, .int .i64 sf] := rfl
   rw [hmk] at hen hstep ⊢
   have hln : lenV (.agg #[.slice A n c, .int .i64 sf]) = n := rfl
   rw [hln] at hstep
   have Hstep := hid hstep
   have hE2 : Ext w w2 := HE.out.grown hg2 HE.out.size (fun k hk => by simp at hk; omega)
   have HE2 := hid hE2
   have hbnd : T + n ≤ 1000000000000 := by
    rw [← hstep]
    exact Nat.le_trans (sumL_le _ G) hsum
   have hwr : IntKind.i64.wrap ((T : Int) + (n : Int)) = (T : Int) + (n : Int) := by rw [IntKind.wrap_i64]; omega
   clear hstep hat hat1 hy hkey hmk hln
   go_wp2_with fail
   go_roundw
   case rel =>
    refine ⟨_, cnt2, ?_, hrg2.alloc _, hid ?_⟩
    ·rw [Hstep.out]; rfl
    ·exact HE2.out.alloc HE2.out.size _
   case measure =>
    rw [(hrg2.alloc _).left_eq, hrg.left_eq]
    exact hlt
end Go.Proofs.YtakebdeldndaaaaGreatDoor
/- The walks of disk.New and Fuse. -/
namespace Go.Proofs.YtakebdeldndaaaaGreatDoor
open Go Go.RowKit
set_option linter.unusedSimpArgs false
set_option linter.unusedVariables false
theorem run_max0 (n m : Int) (hm : m = max n 0) (ts : Array TypeId) (t : TypeId) (w : World) : (Builtin.max_ ts t #[.int .i64 n, .int .i64 0]).run Tryz.prog w = .ok (.int .i64 m) w := by
 simp [Builtin.max_, Builtin.max2]
 repeat' split
 all_goals omega
set_option maxRecDepth 100000 in
theorem new_disk (q : Int) (w : World) :
  Calls Tryz.prog 10 #[.int .i64 q] w fun e w' => ∃ d m, e = .returned (.pointer (some ⟨d, 0, none⟩)) ∧ d ≠ m ∧ w.heap.size ≤ d ∧ w.heap.size ≤ m ∧ DiskS w' d m (max q 0) (-1) ∧ MapAt w' m [] ∧ Ext w w' := by
 have hmax := run_max0 q (max q 0) rfl
 obtain ⟨x, hx⟩ : ∃ x, x = max q 0 := ⟨_, rfl⟩
 rw [← hx] at hmax ⊢
 clear hx
 have hmk := fun w => run_makeMap (P := Tryz.prog) 74 w
 go_enter Tryz.func10, Tryz.ntmps10
 go_wp2
 go_ret
 have hE1 : Ext w (w.alloc (.map #[] 0)) := (Below.refl _ _).alloc (Nat.le_refl _) _
 have hs : (w.alloc (.map #[] 0)).heap.size = w.heap.size + 1 := by simp
 refine ⟨w.heap.size + 1, w.heap.size, rfl, by omega, by omega, Nat.le_refl _, ?_, ?_, ?_⟩
 ·have hb := heap_alloc_last (w.alloc (.map #[] 0)) (.cells #[.int .i64 x, .int .i64 (-1), .map (some w.heap.size)] 76)
  rw [hs] at hb
  exact ⟨by rw [cell_of_row _ _ _ _ _ _ hb]; rfl, by rw [cell_of_row _ _ _ _ _ _ hb]; rfl, by rw [cell_of_row _ _ _ _ _ _ hb]; rfl, by unfold World.frozen?; dsimp only; rw [hb]; rfl⟩
 ·exact (MapAt.made w).ext ((Below.refl _ _).alloc (Nat.le_refl _) _)
 ·exact hE1.alloc hE1.size _
end Go.Proofs.YtakebdeldndaaaaGreatDoor
/- The walk of disk.Sync, at the raw level. -/
namespace Go.Proofs.YtakebdeldndaaaaGreatDoor
open Go Go.RowKit
set_option linter.unusedSimpArgs false
set_option linter.unusedVariables false
def syncV : Value → Value
 | .agg cs => match cs.toList with
  | .slice A n c :: _ => .agg #[.slice A n c, .int .i64 (n : Int)]
  | _ => .agg cs
 | v => v
def syncG (l : Int) (G : Raw) (nm : List UInt8) : Raw := if l = 0 then G else match atL G nm with
 | none => G
 | some v => putL nm (syncV v) G
set_option maxRecDepth 100000 in
set_option maxHeartbeats 2000000 in
theorem sync_raw {w : World} {d m : Nat} {q l : Int} {G : Raw} (h : DiskS w d m q l) (hG : MapAt w m G) (hne : d ≠ m) (hl : -9223372036854775808 ≤ l ∧ l ≤ 9223372036854775807) (nm : List UInt8) (hn : nm.length ≤ 9223372036854775807) (hG1 : G.length < 1000000) :
  Calls Tryz.prog 59 #[.pointer (some ⟨d, 0, none⟩), .string (str nm)] w fun e w' => e = .returned (.int .i64 (knownE l G nm)) ∧ DiskS w' d m q (burnL l) ∧ MapAt w' m (syncG l G nm) ∧ Kept2 d m w w' := by
 have H := hid h
 have HG := hid hG
 have hsh : ∀ v, atL G nm = some v → ∃ A n c sf, v = .agg #[.slice A n c, .int .i64 sf] := fun v hv => by
  have := hG.shape nm hn
  rw [hv] at this
  exact fileShape_inv this
 have hzf := zero_file
 unfold zfile at hzf
 clear h hG
 go_enter Tryz.func59, Tryz.ntmps59
 go_wp2_with fail
 have hcc := known_raw H.out HG.out hne hl nm hn
 refine hcc.mono ?_; clear hcc
 rintro e w1 ⟨rfl, h1, hg1, k1⟩
 have H1 := hid h1; have HG1 := hid hg1; have K1 := hid k1
 clear h1 hg1 k1
 have hE1 : ∀ o, Hid (DiskS (w1.alloc o) d m q (burnL l) ∧ MapAt (w1.alloc o) m G ∧ Kept2 d m w (w1.alloc o)) := fun o => by
  have hE : Ext w1 (w1.alloc o) := (Below.refl _ _).alloc (Nat.le_refl _) o
  exact ⟨H1.out.ext hE, HG1.out.ext hE, K1.out.trans (Kept2.of_ext hE)⟩
 by_cases h0 : l = 0
 ·have e1 := hid (show knownV l G nm = .agg #[.slice none 0 0, .int .i64 0] by unfold knownV; rw [if_pos h0]; rfl)
  have e2 := hid (show knownE l G nm = 14 by unfold knownE; rw [if_pos h0])
  have e3 := hid (show syncG l G nm = G by unfold syncG; rw [if_pos h0])
  rw [e1.out, e2.out]
  have HE1 := hE1 (.cells #[.slice none 0 0, .int .i64 0] 81)
  clear hE1
  go_wp2
  go_ret
  exact ⟨by rw [e2.out]; rfl, HE1.out.1, by rw [e3.out]; exact HE1.out.2.1, HE1.out.2.2⟩
 cases hat : atL G nm with
 | none =>
  have e1 := hid (show knownV l G nm = .agg #[.slice none 0 0, .int .i64 0] by unfold knownV; rw [if_neg h0, hat]; rfl)
  have e2 := hid (show knownE l G nm = 11 by unfold knownE; rw [if_neg h0, hat]; rfl)
  have e3 := hid (show syncG l G nm = G by unfold syncG; rw [if_neg h0, hat])
  rw [e1.out, e2.out]
  have HE1 := hE1 (.cells #[.slice none 0 0, .int .i64 0] 81)
  clear hE1 hat
  go_wp2
  go_ret
  exact ⟨by rw [e2.out]; rfl, HE1.out.1, by rw [e3.out]; exact HE1.out.2.1, HE1.out.2.2⟩
 | some v =>
 obtain ⟨A, n, c, sf, rfl⟩ := hsh v hat
 have e1 := hid (show knownV l G nm = .agg #[.slice A n c, .int .i64 sf] by unfold knownV; rw [if_neg h0, hat]; rfl)
 have e2 := hid (show knownE l G nm = 0 by unfold knownE; rw [if_neg h0, hat]; rfl)
 have e3 := hid (show syncG l G nm = putL nm (.agg #[.slice A n c, .int .i64 (n : Int)]) G by unfold syncG; rw [if_neg h0, hat]; rfl)
 rw [e1.out, e2.out]
 have HE1 := hE1 (.cells #[.slice A n c, .int .i64 sf] 81)
 have Hf := hid (show (w1.alloc (.cells #[.slice A n c, .int .i64 sf] 81)).cell? ⟨w1.heap.size, 0, none⟩ = some (.slice A n c) by rw [cell_of_row _ _ _ _ _ _ (heap_alloc_last w1 _)]; rfl)
 clear hE1 hat hsh
 go_wp2_with fail
 refine wp_drawn_last 11 [isV (.pointer (some ⟨d, 0, none⟩)), isV (.pointer (some ⟨d, 0, none⟩)), isV (.pointer (some ⟨d, 2, none⟩)), isV (.map (some m)), isV (.string (str nm)), isV (.pointer (some ⟨w1.heap.size, 0, none⟩)), isV (.slice A n c), isV (.pointer (some ⟨w1.heap.size, 0, none⟩)), isV (.slice A n c), isV (.int .i64 (n : Int)), isV (.agg #[.slice A n c, .int .i64 (n : Int)])] (by decide) (by kernel_rfl) ?r3hok ?r3hcov ?r3steps ?r3fin
 case r3hok => kernel_rfl
 case r3hcov => kernel_rfl
 case r3steps =>
  refine ⟨?r3s0, ?r3s1, ?r3s2, ?r3s3, ?r3s4, ?r3s5, ?r3s6, ?r3s7, ?r3s8, ?r3s9, ?r3s10, trivial⟩
  case r3s3 =>
   intro v W hE hd; simp only [Region.wanted, ↓reduceIte]; (try simp [deps, waitsOn, Region.binds, knowing, isV, ownsV, anyV] at hd); simp only [putAll, List.take_succ_cons, List.take_zero, List.drop_succ_cons, List.drop_zero, Act.put, List.setIfInBounds_toArray, List.set_cons_zero, List.set_cons_succ, Nat.zero_add, Nat.reduceAdd]
   have e1 := cell_below hE (HE1.out.1).files
   go_simp
   exact ⟨Below.refl _ _, rfl⟩
  case r3s6 =>
   intro v W hE hd; simp only [Region.wanted, ↓reduceIte]; (try simp [deps, waitsOn, Region.binds, knowing, isV, ownsV, anyV] at hd); simp only [putAll, List.take_succ_cons, List.take_zero, List.drop_succ_cons, List.drop_zero, Act.put, List.setIfInBounds_toArray, List.set_cons_zero, List.set_cons_succ, Nat.zero_add, Nat.reduceAdd]
   have e1 := cell_below hE Hf.out
   go_simp
   exact ⟨Below.refl _ _, rfl⟩
  case r3s8 =>
   intro v W hE hd; simp only [Region.wanted, ↓reduceIte]; (try simp [deps, waitsOn, Region.binds, knowing, isV, ownsV, anyV] at hd); simp only [putAll, List.take_succ_cons, List.take_zero, List.drop_succ_cons, List.drop_zero, Act.put, List.setIfInBounds_toArray, List.set_cons_zero, List.set_cons_succ, Nat.zero_add, Nat.reduceAdd]
   have e1 := cell_below hE Hf.out
   go_simp
   exact ⟨Below.refl _ _, rfl⟩
  all_goals (intro v W hE hd; simp only [Region.wanted, ↓reduceIte]; (try simp [deps, waitsOn, Region.binds, knowing, isV, ownsV, anyV] at hd); simp only [putAll, List.take_succ_cons, List.take_zero, List.drop_succ_cons, List.drop_zero, Act.put, List.setIfInBounds_toArray, List.set_cons_zero, List.set_cons_succ, Nat.zero_add, Nat.reduceAdd]; go_simp; exact ⟨Below.refl _ _, rfl⟩)
 case r3fin =>
  rintro v w2 hE hall
  have e3 : v 3 = .map (some m) := by
   obtain ⟨_, _, _, h, _⟩ := hall
   exact h
  have e4 : v 4 = .string (str nm) := by
   obtain ⟨_, _, _, _, h, _⟩ := hall
   exact h
  have e10 : v 10 = .agg #[.slice A n c, .int .i64 (n : Int)] := by
   obtain ⟨_, _, _, _, _, _, _, _, _, _, h, _⟩ := hall
   exact h
  simp only [putAll, List.take_succ_cons, List.take_zero, List.drop_succ_cons, List.drop_zero, Act.put, List.setIfInBounds_toArray, List.set_cons_zero, List.set_cons_succ, Nat.zero_add, Nat.reduceAdd]
  rw [e3, e4, e10]
  have HM2 := hid (HE1.out.2.1.ext hE)
  have HD2 := hid (HE1.out.1.ext hE)
  have HK2 := hid (HE1.out.2.2.trans (Kept2.of_ext hE))
  obtain ⟨w3, hrun, hM3, ht3⟩ := HM2.out.store nm (.agg #[.slice A n c, .int .i64 (n : Int)]) rfl hn hG1
  have HM3 := hid hM3; have Ht3 := hid ht3.grown
  clear hall e3 e4 e10 hM3 ht3 hE
  go_wp2
  go_ret
  have hk := HK2.out.trans (Kept2.of_grown Ht3.out (.inr rfl))
  refine ⟨by rw [e2.out]; rfl, HD2.out.of_block (Ht3.out.block d HD2.out.lt (fun e => hne (by simpa using e))), by rw [e3.out]; exact HM3.out, hk⟩
end Go.Proofs.YtakebdeldndaaaaGreatDoor
/- The walk of disk.Remove, at the raw level. -/
namespace Go.Proofs.YtakebdeldndaaaaGreatDoor
open Go Go.RowKit
set_option linter.unusedSimpArgs false
set_option linter.unusedVariables false
def dropG (l : Int) (G : Raw) (nm : List UInt8) : Raw := if l = 0 then G else match atL G nm with
 | none => G
 | some _ => delL nm G
set_option maxRecDepth 100000 in
set_option maxHeartbeats 2000000 in
theorem remove_raw {w : World} {d m : Nat} {q l : Int} {G : Raw} (h : DiskS w d m q l) (hG : MapAt w m G) (hne : d ≠ m) (hl : -9223372036854775808 ≤ l ∧ l ≤ 9223372036854775807) (nm : List UInt8) (hn : nm.length ≤ 9223372036854775807) (hG1 : G.length < 1000000) :
  Calls Tryz.prog 46 #[.pointer (some ⟨d, 0, none⟩), .string (str nm)] w fun e w' => e = .returned (.int .i64 (knownE l G nm)) ∧ DiskS w' d m q (burnL l) ∧ MapAt w' m (dropG l G nm) ∧ Kept2 d m w w' := by
 have H := hid h
 have HG := hid hG
 have hsh : ∀ v, atL G nm = some v → ∃ A n c sf, v = .agg #[.slice A n c, .int .i64 sf] := fun v hv => by
  have := hG.shape nm hn
  rw [hv] at this
  exact fileShape_inv this
 have hzf := zero_file
 unfold zfile at hzf
 clear h hG
 go_enter Tryz.func46, Tryz.ntmps46
 go_wp2_with fail
 have hcc := known_raw H.out HG.out hne hl nm hn
 refine hcc.mono ?_; clear hcc
 rintro e w1 ⟨rfl, h1, hg1, k1⟩
 have H1 := hid h1; have HG1 := hid hg1; have K1 := hid k1
 clear h1 hg1 k1
 have hE1 : ∀ o, Hid (DiskS (w1.alloc o) d m q (burnL l) ∧ MapAt (w1.alloc o) m G ∧ Kept2 d m w (w1.alloc o)) := fun o => by
  have hE : Ext w1 (w1.alloc o) := (Below.refl _ _).alloc (Nat.le_refl _) o
  exact ⟨H1.out.ext hE, HG1.out.ext hE, K1.out.trans (Kept2.of_ext hE)⟩
 by_cases h0 : l = 0
 ·have e1 := hid (show knownV l G nm = .agg #[.slice none 0 0, .int .i64 0] by unfold knownV; rw [if_pos h0]; rfl)
  have e2 := hid (show knownE l G nm = 14 by unfold knownE; rw [if_pos h0])
  have e3 := hid (show dropG l G nm = G by unfold dropG; rw [if_pos h0])
  rw [e1.out, e2.out]
  have HE1 := hE1 (.cells #[.slice none 0 0, .int .i64 0] 81)
  clear hE1
  go_wp2
  go_ret
  exact ⟨by rw [e2.out]; rfl, HE1.out.1, by rw [e3.out]; exact HE1.out.2.1, HE1.out.2.2⟩
 cases hat : atL G nm with
 | none =>
  have e1 := hid (show knownV l G nm = .agg #[.slice none 0 0, .int .i64 0] by unfold knownV; rw [if_neg h0, hat]; rfl)
  have e2 := hid (show knownE l G nm = 11 by unfold knownE; rw [if_neg h0, hat]; rfl)
  have e3 := hid (show dropG l G nm = G by unfold dropG; rw [if_neg h0, hat])
  rw [e1.out, e2.out]
  have HE1 := hE1 (.cells #[.slice none 0 0, .int .i64 0] 81)
  clear hE1 hat
  go_wp2
  go_ret
  exact ⟨by rw [e2.out]; rfl, HE1.out.1, by rw [e3.out]; exact HE1.out.2.1, HE1.out.2.2⟩
 | some v =>
 obtain ⟨A, n, c, sf, rfl⟩ := hsh v hat
 have e1 := hid (show knownV l G nm = .agg #[.slice A n c, .int .i64 sf] by unfold knownV; rw [if_neg h0, hat]; rfl)
 have e2 := hid (show knownE l G nm = 0 by unfold knownE; rw [if_neg h0, hat]; rfl)
 have e3 := hid (show dropG l G nm = delL nm G by unfold dropG; rw [if_neg h0, hat])
 rw [e1.out, e2.out]
 have HE1 := hE1 (.cells #[.slice A n c, .int .i64 sf] 81)
 clear hE1 hat hsh
 obtain ⟨w3, hrun, hM3, ht3⟩ := HE1.out.2.1.drop nm hn 0
 have ht := ht3.grown
 have HM3 := hid hM3; have Ht := hid ht
 have c2 := HE1.out.1.files
 clear hM3 ht3 ht
 go_wp2
 go_ret
 refine ⟨by rw [e2.out]; rfl, HE1.out.1.of_block (Ht.out.block d HE1.out.1.lt (fun e => hne (by simpa using e))), by rw [e3.out]; exact HM3.out, HE1.out.2.2.trans (Kept2.of_grown Ht.out (.inr rfl))⟩
end Go.Proofs.YtakebdeldndaaaaGreatDoor
/- The walk of disk.Fuse, at the raw level. -/
namespace Go.Proofs.YtakebdeldndaaaaGreatDoor
open Go Go.RowKit
set_option linter.unusedSimpArgs false
set_option linter.unusedVariables false
theorem fuse_raw {w : World} {d m : Nat} {q l n : Int} {G : Raw} (h : DiskS w d m q l) (hG : MapAt w m G) (hne : d ≠ m) :
  Calls Tryz.prog 15 #[.pointer (some ⟨d, 0, none⟩), .int .i64 n] w fun e w' => e = .returned (.tuple #[]) ∧ DiskS w' d m q (max n 0) ∧ MapAt w' m G ∧ Kept2 d m w w' := by
 have hmax := run_max0 n (max n 0) rfl
 obtain ⟨x, hx⟩ : ∃ x, x = max n 0 := ⟨_, rfl⟩
 rw [← hx] at hmax ⊢
 clear hx
 have c1 := h.left
 have c2 := h.free
 have hres : Hid (DiskS (w.setCell ⟨d, 1, none⟩ (.int .i64 x)) d m q x ∧ MapAt (w.setCell ⟨d, 1, none⟩ (.int .i64 x)) m G ∧ Kept2 d m w (w.setCell ⟨d, 1, none⟩ (.int .i64 x))) := by
  refine ⟨⟨?_, ?_, ?_, ?_⟩, hG.set _ _ (fun e => hne e.symm), ?_⟩
  ·exact (World.cell?_setCell_other (w := w) (a := ⟨d, 1, none⟩) (b := ⟨d, 0, none⟩) (v := .int .i64 x) (h := by simp)).trans h.quota
  ·exact World.cell?_setCell_same (w := w) (a := ⟨d, 1, none⟩) (h := h.left) ..
  ·exact (World.cell?_setCell_other (w := w) (a := ⟨d, 1, none⟩) (b := ⟨d, 2, none⟩) (v := .int .i64 x) (h := by simp)).trans h.files
  ·simp only [World.frozen?_setCell]; exact h.free
  ·exact ⟨rfl, rfl, rfl, by simp, fun k hk h1 _ => heap_setCell_other w ⟨d, 1, none⟩ k _ (fun e => h1 e)⟩
 clear h hG
 go_enter Tryz.func15, Tryz.ntmps15
 go_wp2
 go_end0
 exact ⟨rfl, hres.out⟩
end Go.Proofs.YtakebdeldndaaaaGreatDoor
