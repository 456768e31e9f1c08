/- Several texts of this claim's, one behind the other. -/
import Derived.Maps.RangeWalk
import Derived.Test.YtakebdeldndaaaaGreatDoorStore
import Derived.Lib.SliceRun
import Derived.Lib.AppendZerosOnto
import Derived.Laws.BitsAllLaws
import Derived.Shelf.SlMaps.Clone
import Derived.Lib.SlBytesConst
/- A store at a key that is there, in a round of a range over that very map: the range goes on as it was. -/
namespace Go.Proofs.YtakebdeldndaaaaGreatDoor
open Go Go.ChangeMaps Go.MapKept Go.WideShapes
open Go.WideElems (Fit rd rg pl rd_key rd_val rg_of other_key rd_mk)
open Go.Maps (Keyed)
set_option linter.unusedVariables false
theorem set_same_born {l : List MapEntry} {j : Nat} {e0 e1 : MapEntry} (h : l[j]? = some e0) (hb : e1.born = e0.born) : (l.set j e1).map (·.born) = l.map (·.born) := by
  rw [List.map_set]
  apply List.ext_getElem?
  intro i
  rw [List.getElem?_set]
  split
  · rename_i e; subst e
    split
    · rw [List.getElem?_map, h, hb]; rfl
    · rename_i hl
      rw [List.getElem?_eq_none (by omega)]
  · rfl
theorem left_size (a : Array MapEntry) (seen : Array Nat) : (leftOf a seen).size = ((a.toList.map (·.born)).filter fun b => !seen.contains b).length := by
  unfold leftOf
  rw [List.filter_map, List.length_map, ← Array.length_toList, Array.toList_filter]
  rfl
section
variable {H : Type} {P : Program} {k : TypeId} {R : Value → Option (DataW H × List MemPlace)} {w : World} {b r n : Nat} {D : DataW H} {left : Lit → Bool} {cnt : Nat}
theorem ranges_store {t e : TypeId} (h : w.ranges P k R b r n D left cnt) (K : Keyed P k) (ht : P.underlying t = some (.map k e)) {key val : Value} {kl : Lit} {d : DataW H} {ps : List MemPlace} (hkey : keyOf P k key = some kl) (hv : R val = some (d, ps)) (hin : Maps.has D kl = true) :
    ∃ w', (Instr.mapUpdate t (.map (some b)) key val).run P w = .ok () w' ∧ w'.ranges P k R b r n (D.put kl d) left cnt ∧ w.mapTurned w' b := by
  have hne := h.ne
  obtain ⟨es, clock, since, seen, c0, hb, F, hs, rfl, hr, hold, rfl, hl1, hl2, hsc, hsk⟩ := h
  rcases K.find w hkey es.toList F.keys with ⟨h1, h2⟩ | ⟨j, e0, h1, h2, h3⟩
  · exfalso
    obtain ⟨p, hp, hpk⟩ := List.any_eq_true.1 hin
    obtain ⟨x, hx, rfl⟩ := List.mem_map.1 (mem_sorted.1 hp)
    obtain ⟨y, hy⟩ := F.reads x hx
    rw [rg_of hy] at hpk
    have hk := rd_key hy
    rw [WideAt.sameKey_eq hpk] at hk
    exact h2 x hx (K.inj hk hkey)
  · have hj : es[j]? = some e0 := by simpa using h2
    have hjl : j < es.toList.length := (List.getElem?_eq_some_iff.1 h2).1
    have hkeyf : ∀ e', es[j]? = some e' → ({ e' with key := key, val := val } : MapEntry).key = e'.key := fun e' he' => by rw [hj] at he'; cases he'; exact h3.symm
    have hlist : (es.modify j (fun e' => { e' with key := key, val := val })).toList = es.toList.set j { e0 with key := key, val := val } := by rw [Array.toList_modify, modify_eq_set _ _ _ _ h2]
    have who : ∀ x ∈ es.toList.set j { e0 with key := key, val := val }, x = { e0 with key := key, val := val } ∨ (x ∈ es.toList ∧ x.key ≠ key) := by
      intro x hx
      obtain ⟨i, hi, ex⟩ := List.getElem_of_mem hx
      rw [List.getElem_set] at ex
      split at ex
      · exact Or.inl ex.symm
      · rename_i hne
        have hi' : i < es.toList.length := by simpa using hi
        refine Or.inr ⟨ex ▸ List.getElem_mem hi', ?_⟩
        rw [← h3]
        exact other_key F h2 (by rw [List.getElem?_eq_getElem hi', ex]) (fun e1 => hne e1.symm)
    have hnew : rg P k R { e0 with key := key, val := val } = (kl, d) := rg_of (rd_mk hkey hv)
    have h0mem : e0 ∈ es.toList := List.mem_of_getElem? h2
    have h0 : (rg P k R e0).1 = kl := by
      obtain ⟨y, hy⟩ := F.reads e0 h0mem
      rw [rg_of hy]
      have := rd_key hy
      rw [h3, hkey] at this
      exact (Option.some.inj this).symm
    have F' : Fit P k R (es.modify j (fun e' => { e' with key := key, val := val })) clock := by
      refine ⟨by simpa using F.size, stamped_modify F.stamped _ _ (fun _ _ => rfl) (fun e' _ he' => hkeyf e' he'), ?_⟩
      intro x hx
      rw [hlist] at hx
      rcases who x hx with rfl | ⟨hx', hne⟩
      · exact ⟨_, rd_mk hkey hv⟩
      · exact F.reads x hx'
    refine ⟨_, ?_, ⟨es.modify j (fun e' => { e' with key := key, val := val }), clock, since, seen, c0, heap_setBlock_same hb _, F', by simpa using hs, ?_, (heap_setBlock_other hb _ hne).trans hr, fun x hx => ?_, ?_, fun x hx => ?_, fun x0 hx0 => ?_, hsc, hsk⟩, ⟨es, clock, _, clock, hb, rfl⟩⟩
    · simp [Instr.mapUpdate, run_underlying ht, MapKept.run_getObj_map hb, K.check w false hkey, h1, hj, h3, K.stays w hkey, MapKept.run_setObj_map _ hb, Result.andThen, setBlock]
    · rw [DataW.put_eq]
      congr 1
      symm
      refine Maps.sorted_put K.one ⟨key, hkey⟩ (Maps.fit_keys F) (Maps.fit_apart K F) ?_
      rw [Maps.filter_one K F hkey h2 h3, hlist, List.map_set, hnew]
      exact set_perm _ _ (by simpa using hjl) _
    · rw [hlist] at hx
      rcases who x hx with rfl | ⟨hx', _⟩
      · exact hold e0 h0mem
      · exact hold x hx'
    · rw [left_size, left_size, hlist]
      rw [set_same_born (e1 := { e0 with key := key, val := val }) h2 rfl]
    · rw [hlist] at hx
      rcases who x hx with rfl | ⟨hx', _⟩
      · rw [hnew]
        show left kl = _
        rw [← h0]; exact hl1 e0 h0mem
      · exact hl1 x hx'
    · obtain ⟨x, hx, rfl⟩ := hl2 x0 hx0
      by_cases hxk : x.key = key
      · refine ⟨{ e0 with key := key, val := val }, ?_, ?_⟩
        · rw [hlist]
          exact List.mem_of_getElem? (i := j) (by rw [List.getElem?_set, if_pos rfl, if_pos hjl])
        · rw [hnew]
          obtain ⟨y, hy⟩ := F.reads x hx
          rw [rg_of hy]
          have := rd_key hy
          rw [hxk, hkey] at this
          exact Option.some.inj this
      · refine ⟨x, ?_, rfl⟩
        rw [hlist]
        obtain ⟨i, hi⟩ := List.getElem?_of_mem hx
        refine List.mem_of_getElem? (i := i) ?_
        rw [List.getElem?_set]
        have hij : j ≠ i := by
          rintro rfl
          rw [h2] at hi
          cases hi
          exact hxk h3
        rw [if_neg hij, hi]
end
end Go.Proofs.YtakebdeldndaaaaGreatDoor
/- The walk of disk.Truncate, at the raw level. -/
namespace Go.Proofs.YtakebdeldndaaaaGreatDoor
open Go Go.RowKit
set_option linter.unusedSimpArgs false
set_option linter.unusedVariables false
end Go.Proofs.YtakebdeldndaaaaGreatDoor
/- The walks of slices.Clone and disk.Read. -/
namespace Go.Proofs.YtakebdeldndaaaaGreatDoor
open Go Go.RowKit
set_option linter.unusedSimpArgs false
set_option linter.unusedVariables false
theorem OB_none (w : World) (base : Nat) : OB w base (.slice none 0 0) [] := World.ownsRow_nil w base _ _
set_option maxRecDepth 100000 in
set_option maxHeartbeats 1000000 in
theorem sclone_at (A : Option Addr) (n c : Nat) (bs : List UInt8) (w : World) (hn : n = bs.length) (hm : n ≤ 140737488000000) (hb : RB w A bs) :
    Calls Tryz.prog 64 #[.slice A n c] w fun e w' => ∃ v, e = .returned v ∧ OB w' w.heap.size v bs ∧ Below w.heap.size w w' := by
  have Hn := hid hn; clear hn
  have Hb := hid hb; clear hb
  have q22 : ∀ (w : World) (a : Option Addr) (n c n' c' : Nat), (binOp .eql 23 (.slice a n c) (.slice none n' c')).run Tryz.prog w = .ok (.bool a.isNone) w := fun w a n c n' c' => Lib.run_eql_slice_nil w _ 5 a n c n' c' Tryz.underlying23
  cases A with
  | none =>
    have hn0 : bs = [] := by
      rcases Hb.out with h | ⟨_, _, h, _⟩
      · cases bs with
        | nil => rfl
        | cons x l => simp [bvs] at h
      · cases h
    go_enter Tryz.func64, Tryz.ntmps64
    go_wp2
    go_ret
    exact ⟨_, rfl, by rw [hn0]; exact OB_none _ _, Below.refl _ _⟩
  | some ad =>
    go_enter Tryz.func64, Tryz.ntmps64
    go_wp2_with (at_builtin; refine wpList_appB (w0 := w) rfl (.tmp 5) (.tmp 6) rfl w.heap.size _ [] rfl (OB_empty w _ (Nat.le_refl _)) ((Below.refl _ _).alloc (Nat.le_refl _) _) (by simp) (some ad) c n bs rfl Hn (Hb.out.below ((Below.refl _ _).alloc (Nat.le_refl _) _)) (by simp; omega) ?_; intro v w1 Hob Hbel _)
    go_ret
    exact ⟨_, rfl, Hob, Hbel⟩
def readE (F : Files) (nm : List UInt8) : Int := if (atF F nm).isSome then 0 else 11
def readB (F : Files) (nm : List UInt8) : List UInt8 := ((atF F nm).map (·.b)).getD []
theorem RK.toRB {w : World} {K : Nat → Prop} {A : Option Addr} {bs : List UInt8} (h : RK w K A (bvs bs)) : RB w A bs := h.rv
set_option maxRecDepth 100000 in
set_option maxHeartbeats 1000000 in
theorem read_at {w : World} {S : Nat → Prop} {d m : Nat} {q l : Int} {G : Raw} {F : Files} (h : DiskS w d m q l) (hG : MapAt w m G) (hH : Held w S G F) (nm : List UInt8) (hn : nm.length ≤ 9223372036854775807) :
    Calls Tryz.prog 29 #[.pointer (some ⟨d, 0, none⟩), .string (str nm)] w fun e w' => ∃ v, e = .returned (.tuple #[v, .int .i64 (readE F nm)]) ∧ OB w' w.heap.size v (readB F nm) ∧ Ext w w' := by
  have hzf := zero_file
  unfold zfile at hzf
  have hlk := hG.look nm hn
  have c2 := h.files
  have hE0 : ∀ o, Hid (Ext w (w.alloc o)) := fun o => (Below.refl _ _).alloc (Nat.le_refl _) o
  rcases hH.at_ nm with ⟨h1, h2⟩ | ⟨f, v, h1, h2, A, c, rfl, hc, -, -, hb64, hr⟩
  · rw [h2] at hlk
    simp only [Option.getD_none, Option.isSome_none, zfile] at hlk
    have e1 := hid (show readE F nm = 11 by unfold readE; rw [h1]; rfl)
    have e2 := hid (show readB F nm = [] by unfold readB; rw [h1]; rfl)
    have HE := hE0 (.cells #[.slice none 0 0, .int .i64 0] 81)
    clear h hG hH h1 h2 hE0
    go_enter Tryz.func29, Tryz.ntmps29
    go_wp2
    go_ret2
    exact ⟨_, by rw [e1.out]; rfl, by rw [e2.out]; exact OB_none _ _, HE.out⟩
  · rw [h2] at hlk
    simp only [Option.getD_some, Option.isSome_some] at hlk
    have e1 := hid (show readE F nm = 0 by unfold readE; rw [h1]; rfl)
    have e2 := hid (show readB F nm = f.b by unfold readB; rw [h1]; rfl)
    obtain ⟨n, hnn⟩ : ∃ n, n = f.b.length := ⟨_, rfl⟩
    rw [← hnn] at hlk hb64
    have Hnn := hid hnn
    have Hr := hid hr.toRB
    have HE := hE0 (.cells #[.slice A n c, .int .i64 (f.safe : Int)] 81)
    clear h hG hH h1 h2 hE0 hr hnn hc
    go_enter Tryz.func29, Tryz.ntmps29
    go_wp2_with fail
    have hcc := sclone_at A n c f.b (w.alloc (.cells #[.slice A n c, .int .i64 (f.safe : Int)] 81)) Hnn.out (by omega) (Hr.out.below HE.out)
    refine hcc.mono ?_; clear hcc
    rintro e w1 ⟨v1, rfl, hO, hB⟩
    have HO := hid hO; have HB := hid hB; clear hO hB
    go_wp2
    go_ret2
    exact ⟨_, by rw [e1.out]; rfl, by rw [e2.out]; exact HO.out.base HE.out.size, below_all HE.out HB.out⟩
end Go.Proofs.YtakebdeldndaaaaGreatDoor
/- Lists of files beside lists of values: what is put, dropped, found. Plain. -/
namespace Go.Proofs.YtakebdeldndaaaaGreatDoor
open Go Go.RowKit
set_option linter.unusedSimpArgs false
set_option linter.unusedVariables false
def insF (x : List UInt8 × File) : Files → Files
  | [] => [x]
  | y :: r => if bytesBefore x.1 y.1 then x :: y :: r else y :: insF x r
def delF (nm : List UInt8) (F : Files) : Files := F.filter fun p => !(p.1 == nm)
def putF (nm : List UInt8) (f : File) (F : Files) : Files := insF (nm, f) (delF nm F)
section
variable {w : World} {S : Nat → Prop}
theorem Held.ins {nm : List UInt8} {v : Value} {f : File} (hv : FileV w S v f) : ∀ {G : Raw} {F : Files}, Held w S G F → Held w S (insL (nm, v) G) (insF (nm, f) F)
  | [], [], _ => ⟨rfl, hv, trivial⟩
  | p :: G, q :: F, ⟨h1, h2, h3⟩ => by
    unfold insL insF
    rw [h1]
    show Held w S (if bytesBefore nm q.1 = true then _ else _) (if bytesBefore nm q.1 = true then _ else _)
    by_cases hb : bytesBefore nm q.1 = true
    · rw [if_pos hb, if_pos hb]; exact ⟨rfl, hv, h1, h2, h3⟩
    · rw [if_neg hb, if_neg hb]; exact ⟨h1, h2, h3.ins hv⟩
theorem Held.del (nm : List UInt8) : ∀ {G : Raw} {F : Files}, Held w S G F → Held w S (delL nm G) (delF nm F)
  | [], [], _ => trivial
  | p :: G, q :: F, ⟨h1, h2, h3⟩ => by
    have ih := h3.del nm
    unfold delL delF at ih ⊢
    rw [List.filter_cons, List.filter_cons, h1]
    by_cases hb : (!(q.1 == nm)) = true
    · rw [if_pos hb, if_pos hb]; exact ⟨h1, h2, ih⟩
    · rw [if_neg hb, if_neg hb]; exact ih
theorem Held.put {nm : List UInt8} {v : Value} {f : File} {G : Raw} {F : Files} (h : Held w S G F) (hv : FileV w S v f) : Held w S (putL nm v G) (putF nm f F) := (h.del nm).ins hv
def usedF (F : Files) : Nat := (F.map fun p => p.2.b.length).sum
theorem Held.total : ∀ {G : Raw} {F : Files}, Held w S G F → total G = usedF F
  | [], [], _ => rfl
  | p :: G, q :: F, ⟨h1, h2, h3⟩ => by
    have ih := h3.total
    obtain ⟨A, c, e, -⟩ := h2
    unfold Go.Proofs.YtakebdeldndaaaaGreatDoor.total usedF at ih ⊢
    rw [List.map_cons, List.sum_cons, List.map_cons, List.sum_cons, ih, e]
    rfl
end
end Go.Proofs.YtakebdeldndaaaaGreatDoor
/- The walks of slices.Grow at nil, and of slices.Concat of two rows of bytes. -/
namespace Go.Proofs.YtakebdeldndaaaaGreatDoor
open Go Go.RowKit
set_option linter.unusedSimpArgs false
set_option linter.unusedVariables false
theorem wpList_app_run {P : Program} {ops : Array Oper} {rest : List Oper} {o : Oper} {a : Act} {w : World} {Q : Exit → Act → World → Prop} (hgd : o.guard = none) (s x : Operand) {t u : TypeId} (ho : o.op = .call { callee := .builtin .append, args := #[s, x], argTypes := #[t, u] })
    {vs vx v' : Value} {w' : World} (hs : a.eval s = vs) (hx : a.eval x = vx) (hrun : (Builtin.append_ #[t, u] o.type #[vs, vx]).run P w = .ok v' w') (h : wpList P ops Q rest (a.put o.dst v') w') : wpList P ops Q (o :: rest) a w := by
  refine wpList_plain hgd fun K hK => ?_
  unfold Oper.wp
  simp [execOp, ho, resolve, invoke, builtin, hs, hx, hrun, Result.andThen]
  exact hK _ _ h
set_option maxRecDepth 100000 in
set_option maxHeartbeats 1000000 in
theorem grow_nil (n : Nat) (w : World) (hm : n ≤ 1000000000) :
    Calls Tryz.prog 74 #[.slice none 0 0, .int .i64 (n : Int)] w fun e w' => ∃ v, e = .returned v ∧ OB w' w.heap.size v [] ∧ Ext w w' := by
  by_cases h0 : n = 0
  · subst h0
    go_enter Tryz.func74, Tryz.ntmps74
    go_wp2
    go_ret
    exact ⟨_, rfl, OB_none _ _, Below.refl _ _⟩
  have hn : 0 < (n : Int) := by omega
  obtain ⟨i, hi, hii⟩ := Option.map_eq_some_iff.1 u8info.hi
  simp only [Prod.mk.injEq] at hii
  obtain ⟨hz0, hz1, hz2⟩ := hii
  obtain ⟨k, hk⟩ : ∃ k, k = grownCap w n 0 5 := ⟨_, rfl⟩
  have hkn : n ≤ k := by rw [hk]; exact grownCap_ge w _ _ _
  have hkm : k ≤ maxLen := by rw [hk]; exact grownCap_le_maxLen w n 0 5 (by simp only [maxLen]; omega)
  obtain ⟨C, hC⟩ : ∃ C, C = Builtin.zeroCells (Value.int .u8 0).cells n ++ Builtin.zeroCells (Value.int .u8 0).cells (grownCap w n 0 5 - n) := ⟨_, rfl⟩
  have hCs : C.size = k := by
    rw [hC, ← hk]
    simp [Builtin.zeroCells, Value.cells]
    omega
  have happ : ∀ ty, (Builtin.append_ #[23, 3] ty #[.slice none 0 0, .int .i64 (n : Int)]).run Tryz.prog w = .ok (.slice (some ⟨w.heap.size, 0, none⟩) n k) (w.drew.alloc (.cells C 5)) := fun ty => by
    have := Lib.run_append_nil_zeros w 23 3 ty 5 i (.int .u8 0) .i64 .i64 Tryz.underlying23 Tryz.underlying3 hi hz0 n (by omega) (by rw [hz1]; omega) (by omega) (by rw [hz2]; omega)
    rw [← hC, ← hk] at this
    exact this
  have hCs' := hid hCs
  have hneg : ¬ ((n : Int) < 0) := by omega
  clear hC hk hi hz0 hz1 hz2 hCs
  simp only [maxLen] at hkm
  go_enter Tryz.func74, Tryz.ntmps74
  go_wp2_with (at_builtin; refine wpList_app_run rfl (.tmp 20) (.tmp 21) rfl rfl rfl (happ _) ?_; go_frame)
  go_ret
  refine ⟨_, rfl, ⟨by simp [bvs], .inr ⟨w.heap.size, k, C, rfl, Nat.le_refl _, ?_, by simp, by simp only [maxLen]; omega, by rw [hCs'.out]; simp, by simp [bvs]⟩⟩, ?_⟩
  · exact heap_alloc_last w.drew _
  · exact ((Below.refl _ _).drew).alloc (Nat.le_refl _) _
def szs (n1 n2 : Nat) : Nat → Nat
  | 0 => 0
  | 1 => n1
  | _ => n1 + n2
def cats (b1 b2 : List UInt8) : Nat → List UInt8
  | 0 => []
  | 1 => b1
  | _ => b1 ++ b2
set_option maxRecDepth 100000 in
set_option maxHeartbeats 2000000 in
theorem concat_at (g : Nat) (A1 : Option Addr) (n1 c1 : Nat) (b1 : List UInt8) (A2 : Option Addr) (n2 c2 : Nat) (b2 : List UInt8) (w : World) (e1 : n1 = b1.length) (e2 : n2 = b2.length) (hm1 : n1 ≤ 100000000) (hm2 : n2 ≤ 100000000)
    (h1 : RB w A1 b1) (h2 : RB w A2 b2) (hc1 : w.cell? ⟨g, 0, none⟩ = some (.slice A1 n1 c1)) (hc2 : w.cell? ⟨g, 1, none⟩ = some (.slice A2 n2 c2)) :
    Calls Tryz.prog 37 #[.slice (some ⟨g, 0, none⟩) 2 2] w fun e w' => ∃ v, e = .returned v ∧ OB w' w.heap.size v (b1 ++ b2) ∧ Ext w w' := by
  have E1 := hid e1; have E2 := hid e2; have H1 := hid h1; have H2 := hid h2
  have Hc1 := hid hc1; have Hc2 := hid hc2
  clear e1 e2 h1 h2
  go_enter Tryz.func37, Tryz.ntmps37
  go_wp2_with fail
  go_loopw [3, 11] (fun sz i wr => ∃ k : Nat, k ≤ 2 ∧ i = .int .i64 k ∧ sz = .int .i64 (szs n1 n2 k : Int) ∧ w = wr) (fun _ i _ => 2 - (intOf i).toNat)
  case atStart => exact ⟨0, by omega, rfl, rfl, rfl⟩
  case round =>
    obtain ⟨k, hk, rfl, rfl, rfl⟩ := hrel
    obtain rfl | rfl | rfl : k = 0 ∨ k = 1 ∨ k = 2 := by omega
    · simp only [szs]
      go_wp2_with fail
      go_roundw
      case rel => exact ⟨1, by omega, rfl, by simp [szs], trivial⟩
      case measure => simp [intOf]
    · simp only [szs]
      go_wp2_with fail
      go_roundw
      case rel => exact ⟨2, by omega, rfl, by simp [szs], trivial⟩
      case measure => simp [intOf]
    · simp only [szs]
      go_wp2_with fail
      have hcc := grow_nil (n1 + n2) w (by omega)
      refine hcc.mono ?_; clear hcc
      rintro e w1 ⟨v1, rfl, hO1, hB1⟩
      have HO1 := hid hO1; have HB1 := hid hB1; clear hO1 hB1
      clear hc1 hc2
      go_wp2_with fail
      go_loopw [6, 27] (fun v i wr => ∃ k : Nat, k ≤ 2 ∧ i = .int .i64 k ∧ Hid (OB wr w.heap.size v (cats b1 b2 k)) ∧ Hid (Ext w wr)) (fun _ i _ => 2 - (intOf i).toNat)
      case atStart => exact ⟨0, by omega, rfl, HO1, HB1⟩
      case round =>
        clear HO1 HB1
        obtain ⟨k, hk, rfl, HO, HB⟩ := hrel
        have hc1 := cell_below HB.out Hc1.out
        have hc2 := cell_below HB.out Hc2.out
        obtain rfl | rfl | rfl : k = 0 ∨ k = 1 ∨ k = 2 := by omega
        · go_wp2_with (at_builtin; refine wpList_appB (w0 := w) rfl (.tmp 31) (.tmp 32) rfl w.heap.size u6 [] rfl HO HB HB.out.size A1 c1 n1 b1 rfl E1 (H1.out.below HB.out) (by simp; omega) ?_; intro v2 w2 Hob2 Hbel2 _; go_frame)
          go_roundw
          case rel => exact ⟨1, by omega, rfl, Hob2, Hbel2⟩
          case measure => simp [intOf]
        · go_wp2_with (at_builtin; refine wpList_appB (w0 := w) rfl (.tmp 31) (.tmp 32) rfl w.heap.size u6 b1 rfl HO HB HB.out.size A2 c2 n2 b2 rfl E2 (H2.out.below HB.out) (by have := E1.out; omega) ?_; intro v2 w2 Hob2 Hbel2 _; go_frame)
          go_roundw
          case rel => exact ⟨2, by omega, rfl, Hob2, Hbel2⟩
          case measure => simp [intOf]
        · go_wp2
          go_ret
          exact ⟨_, rfl, HO.out, HB.out⟩
end Go.Proofs.YtakebdeldndaaaaGreatDoor
/- The walk of disk.Append. -/
namespace Go.Proofs.YtakebdeldndaaaaGreatDoor
open Go Go.RowKit
set_option linter.unusedSimpArgs false
set_option linter.unusedVariables false
def oldF (F : Files) (nm : List UInt8) : File := (atF F nm).getD ⟨[], 0⟩
def appE (q l : Int) (F : Files) (nm bs : List UInt8) : Int :=
  if l = 0 then 14 else if mayB nm = false then 5 else if 65536 < (oldF F nm).b.length + bs.length ∨ (atF F nm = none ∧ 200 ≤ F.length) then 3
  else if q < (usedF F : Int) + (bs.length : Int) then 10 else 0
def appF (q l : Int) (F : Files) (nm bs : List UInt8) : Files := if appE q l F nm bs = 0 then putF nm ⟨(oldF F nm).b ++ bs, (oldF F nm).safe⟩ F else F
def twoAt (x y : Value) : SPred := ⟨fun v w => ∃ g, v = .slice (some ⟨g, 0, none⟩) 2 2 ∧ w.cell? ⟨g, 0, none⟩ = some x ∧ w.cell? ⟨g, 1, none⟩ = some y, fun _ _ _ ⟨g, h1, h2, h3⟩ hE => ⟨g, h1, cell_below hE h2, cell_below hE h3⟩⟩
def fileOf (base : Nat) (bs : List UInt8) (sf : Int) : SPred := ⟨fun v w => ∃ x, v = .agg #[x, .int .i64 sf] ∧ OB w base x bs, fun _ _ _ ⟨x, h1, h2⟩ hE => ⟨x, h1, h2.below hE⟩⟩
abbrev RS (w : World) (S : Nat → Prop) (A : Option Addr) (bs : List UInt8) : Prop := RK w (fun k => k < w.heap.size ∧ ¬ S k) A (bvs bs)
theorem RS.kept {w w' : World} {S : Nat → Prop} {A : Option Addr} {bs : List UInt8} (h : RS w S A bs) {d m : Nat} (hk : Kept2 d m w w') (hd : S d) (hm : S m) : RS w' S A bs := by
  refine (RK.ext h fun k hk' => hk.block k hk'.1 ?_ ?_).mono fun k hk' => ⟨Nat.lt_of_lt_of_le hk'.1 hk.size, hk'.2⟩
  · rintro rfl; exact hk'.2 hd
  · rintro rfl; exact hk'.2 hm
theorem usedF_le {w : World} {S : Nat → Prop} : ∀ {G : Raw} {F : Files}, Held w S G F → usedF F ≤ 65536 * F.length
  | [], [], _ => by simp [usedF]
  | p :: G, q :: F, ⟨h1, h2, h3⟩ => by
    have ih := usedF_le h3
    obtain ⟨A, c, e, _, _, _, hb, _⟩ := h2
    unfold usedF at ih ⊢
    rw [List.map_cons, List.sum_cons, List.length_cons, Nat.mul_add]
    omega
theorem known_are {w : World} {S : Nat → Prop} {l : Int} {G : Raw} {F : Files} (hl : l ≠ 0) (hH : Held w S G F) (nm : List UInt8) :
    ∃ A n c sf b E, knownV l G nm = .agg #[.slice A n c, .int .i64 ((sf : Nat) : Int)] ∧ knownE l G nm = E ∧ n = b.length ∧ n ≤ c ∧ c ≤ 9223372036854775807 ∧ n ≤ 65536 ∧ sf ≤ n ∧ RS w S A b ∧ oldF F nm = ⟨b, sf⟩ ∧ ((E = 0 ∧ ¬ atF F nm = none) ∨ (E = 11 ∧ atF F nm = none)) := by
  unfold knownV knownE oldF
  rw [if_neg hl, if_neg hl]
  rcases hH.at_ nm with ⟨h1, h2⟩ | ⟨f, v, h1, h2, A, c, rfl, hc, hcm, hs, hb64, hr⟩
  · rw [h1, h2]
    exact ⟨none, 0, 0, 0, [], 11, rfl, rfl, rfl, Nat.le_refl _, by omega, by omega, Nat.le_refl _, .inl rfl, rfl, .inr ⟨rfl, rfl⟩⟩
  · rw [h1, h2]
    exact ⟨A, f.b.length, c, f.safe, f.b, 0, rfl, rfl, rfl, hc, hcm, hb64, hs, hr, rfl, .inl ⟨rfl, by simp⟩⟩
theorem FileV.made {w w0 : World} {S : Nat → Prop} {v : Value} {bs : List UInt8} {sf : Nat} (h : OB w w0.heap.size v bs) (hS : ∀ k, w0.heap.size ≤ k → ¬ S k) (hs : sf ≤ bs.length) (hb : bs.length ≤ 65536) :
    ∃ A c, v = .slice A bs.length c ∧ FileV w S (.agg #[.slice A bs.length c, .int .i64 (sf : Int)]) ⟨bs, sf⟩ := by
  obtain ⟨h1, h2⟩ := h
  rcases h2 with ⟨rfl, h0⟩ | ⟨g, cap, cur, rfl, hb', hg, hn, hm, hsz, ht⟩
  · have h00 : bs = [] := by
      cases bs with
      | nil => rfl
      | cons x l => simp [bvs] at h0
    subst h00
    exact ⟨none, 0, rfl, none, 0, rfl, Nat.le_refl _, by simp, hs, hb, .inl rfl⟩
  · have hrow : w.ownsRow w0.heap.size 5 1 (.slice (some ⟨g, 0, none⟩) bs.length cap) bs.length (bvs bs) := ⟨h1, .inr ⟨g, cap, cur, rfl, hb', hg, hn, hm, hsz, ht⟩⟩
    obtain ⟨A, c, e, hc, hr⟩ := RV.own hrow
    simp only [Value.slice.injEq] at e
    obtain ⟨rfl, -, rfl⟩ := e
    refine ⟨_, _, rfl, _, _, rfl, hn, by simp only [maxLen] at hm; omega, hs, hb, RK.of_rv hr fun b o e hlt => ⟨hlt, hS b ?_⟩⟩
    simp only [Option.some.injEq, Addr.mk.injEq, and_true] at e
    obtain ⟨rfl, rfl⟩ := e
    exact hb'
set_option maxRecDepth 100000 in
set_option maxHeartbeats 2000000 in
theorem append_raw {w : World} {S : Nat → Prop} {d m : Nat} {q l : Int} {G : Raw} {F : Files} (h : DiskS w d m q l) (hG : MapAt w m G) (hH : Held w S G F) (hne : d ≠ m) (hd : S d) (hm : S m) (hS : ∀ k, w.heap.size ≤ k → ¬ S k) (hF : F.length ≤ 200) (hl : -9223372036854775808 ≤ l ∧ l ≤ 9223372036854775807)
    (nm : List UInt8) (hn : nm.length ≤ 9223372036854775807) (A : Option Addr) (n c : Nat) (bs : List UInt8) (hnb : n = bs.length) (hn1 : n ≤ 100000000) (S2 : Nat → Prop) (hd2 : S2 d) (hm2 : S2 m) (hA : RS w S2 A bs) :
    Calls Tryz.prog 12 #[.pointer (some ⟨d, 0, none⟩), .string (str nm), .slice A n c] w fun e w' => e = .returned (.int .i64 (appE q l F nm bs)) ∧ DiskS w' d m q (burnL l) ∧ (∃ G', MapAt w' m G' ∧ Held w' S G' (appF q l F nm bs)) ∧ Kept2 d m w w' := by
  have H := hid h
  have HG := hid hG
  have HH := hid hH
  have HA := hid hA
  have Hn := hid hnb
  have hu := usedF_le hH
  have HGl := hid hH.length
  have HT := hid hH.total
  have HS := hid hS
  have hzf := zero_file
  unfold zfile at hzf
  clear h hG hA hH hnb hS
  go_enter Tryz.func12, Tryz.ntmps12
  go_wp2_with fail
  have hcc := known_raw H.out HG.out hne hl nm hn
  refine hcc.mono ?_; clear hcc
  rintro e w1 ⟨rfl, h1, hg1, k1⟩
  have H1 := hid h1; have HG1 := hid hg1; have K1 := hid k1
  have HH1 := hid (HH.out.kept k1 hd hm)
  clear h1 hg1 k1
  have hE1 : ∀ o, Hid (DiskS (w1.alloc o) d m q (burnL l) ∧ MapAt (w1.alloc o) m G ∧ Kept2 d m w (w1.alloc o)) := fun o => by
    have hE : Ext w1 (w1.alloc o) := (Below.refl _ _).alloc (Nat.le_refl _) o
    exact ⟨H1.out.ext hE, HG1.out.ext hE, K1.out.trans (Kept2.of_ext hE)⟩
  by_cases h0 : l = 0
  · have e1 := hid (show knownV l G nm = .agg #[.slice none 0 0, .int .i64 0] by unfold knownV; rw [if_pos h0]; rfl)
    have e2 := hid (show knownE l G nm = 14 by unfold knownE; rw [if_pos h0])
    have e3 := hid (show appE q l F nm bs = 14 by unfold appE; rw [if_pos h0])
    have e4 := hid (show appF q l F nm bs = F by unfold appF; rw [e3.out]; rfl)
    rw [e1.out, e2.out]
    have HE1 := hE1 (.cells #[.slice none 0 0, .int .i64 0] 81)
    have HHe := hid (HH.out.kept HE1.out.2.2 hd hm)
    clear hE1
    go_wp2
    go_ret
    exact ⟨by rw [e3.out]; rfl, HE1.out.1, ⟨_, HE1.out.2.1, by rw [e4.out]; exact HHe.out⟩, HE1.out.2.2⟩
  obtain ⟨A0, n0, c0, sf, b0, E, e1, e2, hn0, hc0, hc0m, hn64, hsf, hr0, hold, hE⟩ := known_are h0 HH1.out nm
  rw [e1, e2]
  have HE1 := hE1 (.cells #[.slice A0 n0 c0, .int .i64 (sf : Int)] 81)
  have Hn0 := hid hn0; have Hr0 := hid hr0; have Hold := hid hold
  have Hf0 := hid (show (w1.alloc (.cells #[.slice A0 n0 c0, .int .i64 (sf : Int)] 81)).cell? ⟨w1.heap.size, 0, none⟩ = some (.slice A0 n0 c0) by rw [cell_of_row _ _ _ _ _ _ (heap_alloc_last w1 _)]; rfl)
  have Hf1 := hid (show (w1.alloc (.cells #[.slice A0 n0 c0, .int .i64 (sf : Int)] 81)).cell? ⟨w1.heap.size, 1, none⟩ = some (.int .i64 (sf : Int)) by rw [cell_of_row _ _ _ _ _ _ (heap_alloc_last w1 _)]; rfl)
  have hEA : Ext w1 (w1.alloc (.cells #[.slice A0 n0 c0, .int .i64 (sf : Int)] 81)) := (Below.refl _ _).alloc (Nat.le_refl _) _
  have HEA := hid hEA
  clear hE1 e1 e2 hn0 hr0 hold hEA
  have hmc := fun w => may_at nm w
  have Hhe := hid hE; clear hE
  rcases Hhe.out with ⟨rfl, hat⟩ | ⟨rfl, hat⟩
  ·
    have Hat := hid hat; clear hat
    go_wp2_with fail
    generalize w1.alloc (.cells #[.slice A0 n0 c0, .int .i64 (sf : Int)] 81) = W1 at HE1 HEA Hf0 Hf1 ⊢
    have HH2 := hid (HH.out.kept HE1.out.2.2 hd hm)
    have g1 : w1.heap.size < W1.heap.size := World.block_lt_of_cell? W1 ⟨w1.heap.size, 0, none⟩ Hf0.out
    refine (hmc _).mono ?_
    clear hmc
    rintro e w3 ⟨rfl, hb3⟩
    have HB3 := hid hb3; clear hb3
    cases hmay : mayB nm
    · have Hmay := hid hmay; clear hmay
      have e3 := hid (show appE q l F nm bs = 5 by unfold appE; rw [if_neg h0, if_pos Hmay.out])
      have e4 := hid (show appF q l F nm bs = F by unfold appF; rw [e3.out]; rfl)
      go_wp2
      go_ret
      exact ⟨by rw [e3.out]; rfl, HE1.out.1.ext HB3.out, ⟨_, HE1.out.2.1.ext HB3.out, by rw [e4.out]; exact HH2.out.kept (Kept2.of_ext (d := d) (m := m) HB3.out) hd hm⟩, HE1.out.2.2.trans (Kept2.of_ext HB3.out)⟩
    have Hmay := hid hmay; clear hmay
    have HD3 := hid (HE1.out.1.ext HB3.out)
    have HM3 := hid (HE1.out.2.1.ext HB3.out)
    have HK3 := hid (HE1.out.2.2.trans (Kept2.of_ext HB3.out))
    have HH3 := hid (HH.out.kept HK3.out hd hm)
    have f0 := cell_below HB3.out Hf0.out
    have c0' := HD3.out.files
    have hlen := fun ty => HM3.out.len ty
    rw [HGl.out] at hlen
    by_cases hb : 65536 < n0 + n ∨ (False)
    · have e3 := hid (show appE q l F nm bs = 3 by unfold appE; rw [if_neg h0, if_neg (by rw [Hmay.out]; decide), Hold.out]; exact if_pos (by rw [← Hn.out]; show 65536 < b0.length + n ∨ _; rw [← Hn0.out]; exact hb.imp id fun h => (by first | exact ⟨Hat.out, h⟩ | exact h.elim)))
      have e4 := hid (show appF q l F nm bs = F by unfold appF; rw [e3.out]; rfl)
      by_cases hb1 : (65536 : Int) < (n0 : Int) + (n : Int)
      · clear hb
        go_wp2
        go_ret
        exact ⟨by rw [e3.out]; rfl, HD3.out, ⟨_, HM3.out, by rw [e4.out]; exact HH3.out⟩, HK3.out⟩
      · first
        | (exfalso; rcases hb with hb | hb; (· omega); (· exact hb))
        | (have hs1 : (200 : Int) ≤ (F.length : Int) := by omega
           clear hb
           go_wp2
           go_ret
           exact ⟨by rw [e3.out]; rfl, HD3.out, ⟨_, HM3.out, by rw [e4.out]; exact HH3.out⟩, HK3.out⟩)
    have hb1 : ¬ ((65536 : Int) < (n0 : Int) + (n : Int)) := by omega
    have hb2 : True := by first | trivial | omega
    have hlc : Hid (n0 + n ≤ 65536) := by unfold Hid; omega
    have hsum : Hid (total G ≤ 1000000000000) := by unfold Hid; rw [HT.out]; omega
    clear hb hu
    go_wp2_with fail
    apply wp_drawn [isV _, isV _, isV _, isV _, isV _, isV _, isV _, isV _, isV _, isV _, isV _] (by kernel_rfl)
    · kernel_rfl
    · refine ⟨?r8s0, ?r8s1, ?r8s2, ?r8s3, ?r8s4, ?r8s5, ?r8s6, ?r8s7, ?r8s8, ?r8s9, ?r8s10, trivial⟩
      case r8s0 =>
        intro v W hE hd; simp only [Region.wanted, ↓reduceIte]; (try simp [deps, waitsOn, Region.binds, knowing, isV, ownsV, anyV] at hd); simp only [putAll, List.take_succ_cons, List.take_zero, List.drop_succ_cons, List.drop_zero, Act.put, List.setIfInBounds_toArray, List.set_cons_zero, List.set_cons_succ, Nat.zero_add, Nat.reduceAdd]; go_simp; exact ⟨Below.refl _ _, rfl⟩
      case r8s1 =>
        intro v W hE hd; simp only [Region.wanted, ↓reduceIte]; (try simp [deps, waitsOn, Region.binds, knowing, isV, ownsV, anyV] at hd); simp only [putAll, List.take_succ_cons, List.take_zero, List.drop_succ_cons, List.drop_zero, Act.put, List.setIfInBounds_toArray, List.set_cons_zero, List.set_cons_succ, Nat.zero_add, Nat.reduceAdd]
        go_simp
        refine (used_raw (HD3.out.ext hE) (HM3.out.ext hE) hsum.out).mono ?_
        rintro e w5 ⟨rfl, hb5⟩
        have HB := hid hb5; clear hb5
        go_simp
        exact ⟨HB.out, rfl⟩
      case r8s2 | r8s3 =>
        intro v W hE hd; simp only [Region.wanted, ↓reduceIte]; (try simp [deps, waitsOn, Region.binds, knowing, isV, ownsV, anyV] at hd); simp only [putAll, List.take_succ_cons, List.take_zero, List.drop_succ_cons, List.drop_zero, Act.put, List.setIfInBounds_toArray, List.set_cons_zero, List.set_cons_succ, Nat.zero_add, Nat.reduceAdd]; go_simp; exact ⟨Below.refl _ _, rfl⟩
      case r8s4 =>
        intro v W hE hd; simp only [Region.wanted, ↓reduceIte]; (try simp [deps, waitsOn, Region.binds, knowing, isV, ownsV, anyV] at hd); simp only [putAll, List.take_succ_cons, List.take_zero, List.drop_succ_cons, List.drop_zero, Act.put, List.setIfInBounds_toArray, List.set_cons_zero, List.set_cons_succ, Nat.zero_add, Nat.reduceAdd]
        have e1 := hid (show IntKind.i64.wrap ((total G : Int) + (n : Int)) = (total G : Int) + (n : Int) by rw [IntKind.wrap_i64]; have := hsum.out; omega)
        go_simp
        rw [e1.out]
        exact ⟨Below.refl _ _, rfl⟩
      case r8s5 | r8s6 | r8s7 =>
        intro v W hE hd; simp only [Region.wanted, ↓reduceIte]; (try simp [deps, waitsOn, Region.binds, knowing, isV, ownsV, anyV] at hd); simp only [putAll, List.take_succ_cons, List.take_zero, List.drop_succ_cons, List.drop_zero, Act.put, List.setIfInBounds_toArray, List.set_cons_zero, List.set_cons_succ, Nat.zero_add, Nat.reduceAdd]; go_simp; exact ⟨Below.refl _ _, rfl⟩
      case r8s8 =>
        intro v W hE hd; simp only [Region.wanted, ↓reduceIte]; (try simp [deps, waitsOn, Region.binds, knowing, isV, ownsV, anyV] at hd); simp only [putAll, List.take_succ_cons, List.take_zero, List.drop_succ_cons, List.drop_zero, Act.put, List.setIfInBounds_toArray, List.set_cons_zero, List.set_cons_succ, Nat.zero_add, Nat.reduceAdd]
        have e1 := cell_below hE HD3.out.quota
        go_simp
        exact ⟨Below.refl _ _, rfl⟩
      case r8s9 | r8s10 =>
        intro v W hE hd; simp only [Region.wanted, ↓reduceIte]; (try simp [deps, waitsOn, Region.binds, knowing, isV, ownsV, anyV] at hd); simp only [putAll, List.take_succ_cons, List.take_zero, List.drop_succ_cons, List.drop_zero, Act.put, List.setIfInBounds_toArray, List.set_cons_zero, List.set_cons_succ, Nat.zero_add, Nat.reduceAdd]; go_simp; exact ⟨Below.refl _ _, rfl⟩
    · rintro v W hE ⟨-, -, -, -, -, -, -, -, -, -, e10, -⟩
      have e10 := (show v 10 = _ from e10)
      simp only [putAll, List.take_succ_cons, List.take_zero, List.drop_succ_cons, List.drop_zero, Act.put, List.setIfInBounds_toArray, List.set_cons_zero, List.set_cons_succ, Nat.zero_add, Nat.reduceAdd]
      rw [e10]
      have HD5 := hid (HD3.out.ext hE)
      have HM5 := hid (HM3.out.ext hE)
      have HK5 := hid (HK3.out.trans (Kept2.of_ext hE))
      have HH5 := hid (HH.out.kept HK5.out hd hm)
      have Hf05 := hid (cell_below (Ext.trans' HB3.out hE) Hf0.out)
      have Hf15 := hid (cell_below (Ext.trans' HB3.out hE) Hf1.out)
      have Hr05 := hid (Hr0.out.kept (Kept2.of_ext (d := d) (m := m) (Ext.trans' (Ext.trans' HEA.out HB3.out) hE)) hd hm)
      have HA5 := hid (HA.out.kept HK5.out hd2 hm2)
      clear hE e10
      by_cases hsp : q < (total G : Int) + (n : Int)
      · rw [decide_eq_true hsp]
        have E3 := hid (show appE q l F nm bs = 10 by unfold appE; rw [if_neg h0, if_neg (by rw [Hmay.out]; decide), if_neg (by rw [Hold.out, ← Hn.out]; show ¬ (65536 < b0.length + n ∨ _); rw [← Hn0.out]; have := hlc.out; rintro (h | h) <;> first | omega | exact Hat.out h.1), if_pos (by rw [← Hn.out, ← HT.out]; exact hsp)])
        have E4 := hid (show appF q l F nm bs = F by unfold appF; rw [E3.out]; rfl)
        clear hsp
        go_wp2
        go_ret
        exact ⟨by rw [E3.out]; rfl, HD5.out, ⟨_, HM5.out, by rw [E4.out]; exact HH5.out⟩, HK5.out⟩
      rw [decide_eq_false hsp]
      have E3 := hid (show appE q l F nm bs = 0 by unfold appE; rw [if_neg h0, if_neg (by rw [Hmay.out]; decide), if_neg (by rw [Hold.out, ← Hn.out]; show ¬ (65536 < b0.length + n ∨ _); rw [← Hn0.out]; have := hlc.out; rintro (h | h) <;> first | omega | exact Hat.out h.1), if_neg (by rw [← Hn.out, ← HT.out]; exact hsp)])
      have E4 := hid (show appF q l F nm bs = putF nm ⟨b0 ++ bs, sf⟩ F by unfold appF; rw [E3.out, Hold.out]; rfl)
      clear hsp
      go_wp2_with fail
      apply wp_drawn_last 13 [isV _, isV _, isV _, isV _, isV _, isV _, isV _, isV _, twoAt (.slice A0 n0 c0) (.slice A n c), ownsV w.heap.size (b0 ++ bs), isV _, isV _, fileOf w.heap.size (b0 ++ bs) (sf : Int)] (by decide) (by kernel_rfl)
      · kernel_rfl
      · kernel_rfl
      · refine ⟨?r10s0, ?r10s1, ?r10s2, ?r10s3, ?r10s4, ?r10s5, ?r10s6, ?r10s7, ?r10s8, ?r10s9, ?r10s10, ?r10s11, ?r10s12, trivial⟩
        case r10s0 | r10s1 | r10s2 =>
          intro v W hE hd; simp only [Region.wanted, ↓reduceIte]; (try simp [deps, waitsOn, Region.binds, knowing, isV, ownsV, anyV] at hd); simp only [putAll, List.take_succ_cons, List.take_zero, List.drop_succ_cons, List.drop_zero, Act.put, List.setIfInBounds_toArray, List.set_cons_zero, List.set_cons_succ, Nat.zero_add, Nat.reduceAdd]; go_simp; exact ⟨Below.refl _ _, rfl⟩
        case r10s3 =>
          intro v W hE hd; simp only [Region.wanted, ↓reduceIte]; (try simp [deps, waitsOn, Region.binds, knowing, isV, ownsV, anyV] at hd); simp only [putAll, List.take_succ_cons, List.take_zero, List.drop_succ_cons, List.drop_zero, Act.put, List.setIfInBounds_toArray, List.set_cons_zero, List.set_cons_succ, Nat.zero_add, Nat.reduceAdd]
          have e1 := cell_below hE HD5.out.files
          go_simp
          exact ⟨Below.refl _ _, rfl⟩
        case r10s4 | r10s5 =>
          intro v W hE hd; simp only [Region.wanted, ↓reduceIte]; (try simp [deps, waitsOn, Region.binds, knowing, isV, ownsV, anyV] at hd); simp only [putAll, List.take_succ_cons, List.take_zero, List.drop_succ_cons, List.drop_zero, Act.put, List.setIfInBounds_toArray, List.set_cons_zero, List.set_cons_succ, Nat.zero_add, Nat.reduceAdd]; go_simp; exact ⟨Below.refl _ _, rfl⟩
        case r10s6 =>
          intro v W hE hd; simp only [Region.wanted, ↓reduceIte]; (try simp [deps, waitsOn, Region.binds, knowing, isV, ownsV, anyV] at hd); simp only [putAll, List.take_succ_cons, List.take_zero, List.drop_succ_cons, List.drop_zero, Act.put, List.setIfInBounds_toArray, List.set_cons_zero, List.set_cons_succ, Nat.zero_add, Nat.reduceAdd]
          have e1 := cell_below hE Hf05.out
          go_simp
          exact ⟨Below.refl _ _, rfl⟩
        case r10s7 =>
          intro v W hE hd; simp only [Region.wanted, ↓reduceIte]; (try simp [deps, waitsOn, Region.binds, knowing, isV, ownsV, anyV] at hd); simp only [putAll, List.take_succ_cons, List.take_zero, List.drop_succ_cons, List.drop_zero, Act.put, List.setIfInBounds_toArray, List.set_cons_zero, List.set_cons_succ, Nat.zero_add, Nat.reduceAdd]; go_simp; exact ⟨Below.refl _ _, rfl⟩
        case r10s8 =>
          intro v W hE hd; simp only [Region.wanted, ↓reduceIte]; (try simp [deps, waitsOn, Region.binds, knowing, isV, ownsV, anyV] at hd); simp only [putAll, List.take_succ_cons, List.take_zero, List.drop_succ_cons, List.drop_zero, Act.put, List.setIfInBounds_toArray, List.set_cons_zero, List.set_cons_succ, Nat.zero_add, Nat.reduceAdd]
          go_simp
          exact ⟨(Below.refl _ _).alloc (Nat.le_refl _) _, _, rfl, by rw [cell_of_row _ _ _ _ _ _ (heap_alloc_last _ _)]; rfl, by rw [cell_of_row _ _ _ _ _ _ (heap_alloc_last _ _)]; rfl⟩
        case r10s9 =>
          intro v W hE hd; simp only [Region.wanted, ↓reduceIte]; (try simp [deps, waitsOn, Region.binds, knowing, isV, ownsV, anyV] at hd); simp only [putAll, List.take_succ_cons, List.take_zero, List.drop_succ_cons, List.drop_zero, Act.put, List.setIfInBounds_toArray, List.set_cons_zero, List.set_cons_succ, Nat.zero_add, Nat.reduceAdd]
          obtain ⟨g, e1, e2, e3⟩ := hd
          have E2 := hid e2; have E3' := hid e3; clear e2 e3
          go_simp
          refine (concat_at g A0 n0 c0 b0 A n c bs W Hn0.out Hn.out (by omega) (by omega) (RK.rv Hr05.out |>.below hE) (RK.rv HA5.out |>.below hE) E2.out E3'.out).mono ?_
          rintro e w6 ⟨v6, rfl, hO6, hB6⟩
          have HO := hid hO6; have HB := hid hB6; clear hO6 hB6
          go_simp
          exact ⟨HB.out, HO.out.base (Nat.le_trans HK5.out.size hE.size)⟩
        case r10s10 =>
          intro v W hE hd; simp only [Region.wanted, ↓reduceIte]; (try simp [deps, waitsOn, Region.binds, knowing, isV, ownsV, anyV] at hd); simp only [putAll, List.take_succ_cons, List.take_zero, List.drop_succ_cons, List.drop_zero, Act.put, List.setIfInBounds_toArray, List.set_cons_zero, List.set_cons_succ, Nat.zero_add, Nat.reduceAdd]; go_simp; exact ⟨Below.refl _ _, rfl⟩
        case r10s11 =>
          intro v W hE hd; simp only [Region.wanted, ↓reduceIte]; (try simp [deps, waitsOn, Region.binds, knowing, isV, ownsV, anyV] at hd); simp only [putAll, List.take_succ_cons, List.take_zero, List.drop_succ_cons, List.drop_zero, Act.put, List.setIfInBounds_toArray, List.set_cons_zero, List.set_cons_succ, Nat.zero_add, Nat.reduceAdd]
          have e1 := cell_below hE Hf15.out
          go_simp
          exact ⟨Below.refl _ _, rfl⟩
        case r10s12 =>
          intro v W hE hd; simp only [Region.wanted, ↓reduceIte]; (try simp [deps, waitsOn, Region.binds, knowing, isV, ownsV, anyV] at hd); simp only [putAll, List.take_succ_cons, List.take_zero, List.drop_succ_cons, List.drop_zero, Act.put, List.setIfInBounds_toArray, List.set_cons_zero, List.set_cons_succ, Nat.zero_add, Nat.reduceAdd]
          obtain ⟨h9, h11⟩ := hd
          obtain ⟨A9, c9, e9, -, -⟩ := OB.read h9
          rw [e9] at h9
          obtain ⟨k, hk⟩ : ∃ k, k = (b0 ++ bs).length := ⟨_, rfl⟩
          rw [← hk] at e9 h9
          have H9 := hid h9; clear h9 hk
          go_simp
          exact ⟨Below.refl _ _, _, rfl, H9.out⟩
      · rintro v W hE ⟨-, -, -, e3, e4, -, -, -, -, -, -, -, e12, -⟩
        have e3 := (show v 3 = _ from e3)
        have e4 := (show v 4 = _ from e4)
        have e12 := (show _ from e12)
        simp only [putAll, List.take_succ_cons, List.take_zero, List.drop_succ_cons, List.drop_zero, Act.put, List.setIfInBounds_toArray, List.set_cons_zero, List.set_cons_succ, Nat.zero_add, Nat.reduceAdd]
        obtain ⟨x, e12, hO⟩ := e12
        obtain ⟨Ax, cx, ex, hFV⟩ := FileV.made hO HS.out (show sf ≤ (b0 ++ bs).length by have := Hn0.out; simp; omega) (by have := hlc.out; have := Hn0.out; have := Hn.out; simp; omega)
        obtain ⟨k, hk⟩ : ∃ k, k = (b0 ++ bs).length := ⟨_, rfl⟩
        rw [← hk] at ex hFV
        subst ex
        have HFV := hid hFV; clear hFV hO hk
        rw [e3, e4, e12]
        have HD6 := hid (HD5.out.ext hE)
        have HM6 := hid (HM5.out.ext hE)
        have HK6 := hid (HK5.out.trans (Kept2.of_ext hE))
        have HH6 := hid (HH.out.kept HK6.out hd hm)
        obtain ⟨w7, hrun, hM7, ht7⟩ := HM6.out.store nm (.agg #[.slice Ax k cx, .int .i64 (sf : Int)]) rfl hn (by have := HGl.out; omega)
        have HM7 := hid hM7; have Ht7 := hid ht7.grown
        clear e3 e4 e12 hM7 ht7 hE
        go_wp2
        go_ret
        have hk := Kept2.of_grown (d := d) Ht7.out (.inr rfl)
        exact ⟨by rw [E3.out]; rfl, HD6.out.of_block (Ht7.out.block d HD6.out.lt (fun e => hne (by simpa using e))), ⟨_, HM7.out, by rw [E4.out]; exact (HH6.out.put HFV.out).kept hk hd hm⟩, HK6.out.trans hk⟩
  ·
    have Hat := hid hat; clear hat
    go_wp2_with fail
    generalize w1.alloc (.cells #[.slice A0 n0 c0, .int .i64 (sf : Int)] 81) = W1 at HE1 HEA Hf0 Hf1 ⊢
    have HH2 := hid (HH.out.kept HE1.out.2.2 hd hm)
    have g1 : w1.heap.size < W1.heap.size := World.block_lt_of_cell? W1 ⟨w1.heap.size, 0, none⟩ Hf0.out
    refine (hmc _).mono ?_
    clear hmc
    rintro e w3 ⟨rfl, hb3⟩
    have HB3 := hid hb3; clear hb3
    cases hmay : mayB nm
    · have Hmay := hid hmay; clear hmay
      have e3 := hid (show appE q l F nm bs = 5 by unfold appE; rw [if_neg h0, if_pos Hmay.out])
      have e4 := hid (show appF q l F nm bs = F by unfold appF; rw [e3.out]; rfl)
      go_wp2
      go_ret
      exact ⟨by rw [e3.out]; rfl, HE1.out.1.ext HB3.out, ⟨_, HE1.out.2.1.ext HB3.out, by rw [e4.out]; exact HH2.out.kept (Kept2.of_ext (d := d) (m := m) HB3.out) hd hm⟩, HE1.out.2.2.trans (Kept2.of_ext HB3.out)⟩
    have Hmay := hid hmay; clear hmay
    have HD3 := hid (HE1.out.1.ext HB3.out)
    have HM3 := hid (HE1.out.2.1.ext HB3.out)
    have HK3 := hid (HE1.out.2.2.trans (Kept2.of_ext HB3.out))
    have HH3 := hid (HH.out.kept HK3.out hd hm)
    have f0 := cell_below HB3.out Hf0.out
    have c0' := HD3.out.files
    have hlen := fun ty => HM3.out.len ty
    rw [HGl.out] at hlen
    by_cases hb : 65536 < n0 + n ∨ (200 ≤ F.length)
    · have e3 := hid (show appE q l F nm bs = 3 by unfold appE; rw [if_neg h0, if_neg (by rw [Hmay.out]; decide), Hold.out]; exact if_pos (by rw [← Hn.out]; show 65536 < b0.length + n ∨ _; rw [← Hn0.out]; exact hb.imp id fun h => (by first | exact ⟨Hat.out, h⟩ | exact h.elim)))
      have e4 := hid (show appF q l F nm bs = F by unfold appF; rw [e3.out]; rfl)
      by_cases hb1 : (65536 : Int) < (n0 : Int) + (n : Int)
      · clear hb
        go_wp2
        go_ret
        exact ⟨by rw [e3.out]; rfl, HD3.out, ⟨_, HM3.out, by rw [e4.out]; exact HH3.out⟩, HK3.out⟩
      · first
        | (exfalso; rcases hb with hb | hb; (· omega); (· exact hb))
        | (have hs1 : (200 : Int) ≤ (F.length : Int) := by omega
           clear hb
           go_wp2
           go_ret
           exact ⟨by rw [e3.out]; rfl, HD3.out, ⟨_, HM3.out, by rw [e4.out]; exact HH3.out⟩, HK3.out⟩)
    have hb1 : ¬ ((65536 : Int) < (n0 : Int) + (n : Int)) := by omega
    have hb2 : ¬ ((200 : Int) ≤ (F.length : Int)) := by first | trivial | omega
    have hlc : Hid (n0 + n ≤ 65536) := by unfold Hid; omega
    have hsum : Hid (total G ≤ 1000000000000) := by unfold Hid; rw [HT.out]; omega
    clear hb hu
    go_wp2_with fail
    apply wp_drawn [isV _, isV _, isV _, isV _, isV _, isV _, isV _, isV _, isV _, isV _, isV _] (by kernel_rfl)
    · kernel_rfl
    · refine ⟨?r8s0, ?r8s1, ?r8s2, ?r8s3, ?r8s4, ?r8s5, ?r8s6, ?r8s7, ?r8s8, ?r8s9, ?r8s10, trivial⟩
      case r8s0 =>
        intro v W hE hd; simp only [Region.wanted, ↓reduceIte]; (try simp [deps, waitsOn, Region.binds, knowing, isV, ownsV, anyV] at hd); simp only [putAll, List.take_succ_cons, List.take_zero, List.drop_succ_cons, List.drop_zero, Act.put, List.setIfInBounds_toArray, List.set_cons_zero, List.set_cons_succ, Nat.zero_add, Nat.reduceAdd]; go_simp; exact ⟨Below.refl _ _, rfl⟩
      case r8s1 =>
        intro v W hE hd; simp only [Region.wanted, ↓reduceIte]; (try simp [deps, waitsOn, Region.binds, knowing, isV, ownsV, anyV] at hd); simp only [putAll, List.take_succ_cons, List.take_zero, List.drop_succ_cons, List.drop_zero, Act.put, List.setIfInBounds_toArray, List.set_cons_zero, List.set_cons_succ, Nat.zero_add, Nat.reduceAdd]
        go_simp
        refine (used_raw (HD3.out.ext hE) (HM3.out.ext hE) hsum.out).mono ?_
        rintro e w5 ⟨rfl, hb5⟩
        have HB := hid hb5; clear hb5
        go_simp
        exact ⟨HB.out, rfl⟩
      case r8s2 | r8s3 =>
        intro v W hE hd; simp only [Region.wanted, ↓reduceIte]; (try simp [deps, waitsOn, Region.binds, knowing, isV, ownsV, anyV] at hd); simp only [putAll, List.take_succ_cons, List.take_zero, List.drop_succ_cons, List.drop_zero, Act.put, List.setIfInBounds_toArray, List.set_cons_zero, List.set_cons_succ, Nat.zero_add, Nat.reduceAdd]; go_simp; exact ⟨Below.refl _ _, rfl⟩
      case r8s4 =>
        intro v W hE hd; simp only [Region.wanted, ↓reduceIte]; (try simp [deps, waitsOn, Region.binds, knowing, isV, ownsV, anyV] at hd); simp only [putAll, List.take_succ_cons, List.take_zero, List.drop_succ_cons, List.drop_zero, Act.put, List.setIfInBounds_toArray, List.set_cons_zero, List.set_cons_succ, Nat.zero_add, Nat.reduceAdd]
        have e1 := hid (show IntKind.i64.wrap ((total G : Int) + (n : Int)) = (total G : Int) + (n : Int) by rw [IntKind.wrap_i64]; have := hsum.out; omega)
        go_simp
        rw [e1.out]
        exact ⟨Below.refl _ _, rfl⟩
      case r8s5 | r8s6 | r8s7 =>
        intro v W hE hd; simp only [Region.wanted, ↓reduceIte]; (try simp [deps, waitsOn, Region.binds, knowing, isV, ownsV, anyV] at hd); simp only [putAll, List.take_succ_cons, List.take_zero, List.drop_succ_cons, List.drop_zero, Act.put, List.setIfInBounds_toArray, List.set_cons_zero, List.set_cons_succ, Nat.zero_add, Nat.reduceAdd]; go_simp; exact ⟨Below.refl _ _, rfl⟩
      case r8s8 =>
        intro v W hE hd; simp only [Region.wanted, ↓reduceIte]; (try simp [deps, waitsOn, Region.binds, knowing, isV, ownsV, anyV] at hd); simp only [putAll, List.take_succ_cons, List.take_zero, List.drop_succ_cons, List.drop_zero, Act.put, List.setIfInBounds_toArray, List.set_cons_zero, List.set_cons_succ, Nat.zero_add, Nat.reduceAdd]
        have e1 := cell_below hE HD3.out.quota
        go_simp
        exact ⟨Below.refl _ _, rfl⟩
      case r8s9 | r8s10 =>
        intro v W hE hd; simp only [Region.wanted, ↓reduceIte]; (try simp [deps, waitsOn, Region.binds, knowing, isV, ownsV, anyV] at hd); simp only [putAll, List.take_succ_cons, List.take_zero, List.drop_succ_cons, List.drop_zero, Act.put, List.setIfInBounds_toArray, List.set_cons_zero, List.set_cons_succ, Nat.zero_add, Nat.reduceAdd]; go_simp; exact ⟨Below.refl _ _, rfl⟩
    · rintro v W hE ⟨-, -, -, -, -, -, -, -, -, -, e10, -⟩
      have e10 := (show v 10 = _ from e10)
      simp only [putAll, List.take_succ_cons, List.take_zero, List.drop_succ_cons, List.drop_zero, Act.put, List.setIfInBounds_toArray, List.set_cons_zero, List.set_cons_succ, Nat.zero_add, Nat.reduceAdd]
      rw [e10]
      have HD5 := hid (HD3.out.ext hE)
      have HM5 := hid (HM3.out.ext hE)
      have HK5 := hid (HK3.out.trans (Kept2.of_ext hE))
      have HH5 := hid (HH.out.kept HK5.out hd hm)
      have Hf05 := hid (cell_below (Ext.trans' HB3.out hE) Hf0.out)
      have Hf15 := hid (cell_below (Ext.trans' HB3.out hE) Hf1.out)
      have Hr05 := hid (Hr0.out.kept (Kept2.of_ext (d := d) (m := m) (Ext.trans' (Ext.trans' HEA.out HB3.out) hE)) hd hm)
      have HA5 := hid (HA.out.kept HK5.out hd2 hm2)
      clear hE e10
      by_cases hsp : q < (total G : Int) + (n : Int)
      · rw [decide_eq_true hsp]
        have E3 := hid (show appE q l F nm bs = 10 by unfold appE; rw [if_neg h0, if_neg (by rw [Hmay.out]; decide), if_neg (by rw [Hold.out, ← Hn.out]; show ¬ (65536 < b0.length + n ∨ _); rw [← Hn0.out]; have := hlc.out; rintro (h | h) <;> first | omega | exact Hat.out h.1), if_pos (by rw [← Hn.out, ← HT.out]; exact hsp)])
        have E4 := hid (show appF q l F nm bs = F by unfold appF; rw [E3.out]; rfl)
        clear hsp
        go_wp2
        go_ret
        exact ⟨by rw [E3.out]; rfl, HD5.out, ⟨_, HM5.out, by rw [E4.out]; exact HH5.out⟩, HK5.out⟩
      rw [decide_eq_false hsp]
      have E3 := hid (show appE q l F nm bs = 0 by unfold appE; rw [if_neg h0, if_neg (by rw [Hmay.out]; decide), if_neg (by rw [Hold.out, ← Hn.out]; show ¬ (65536 < b0.length + n ∨ _); rw [← Hn0.out]; have := hlc.out; rintro (h | h) <;> first | omega | exact Hat.out h.1), if_neg (by rw [← Hn.out, ← HT.out]; exact hsp)])
      have E4 := hid (show appF q l F nm bs = putF nm ⟨b0 ++ bs, sf⟩ F by unfold appF; rw [E3.out, Hold.out]; rfl)
      clear hsp
      go_wp2_with fail
      apply wp_drawn_last 13 [isV _, isV _, isV _, isV _, isV _, isV _, isV _, isV _, twoAt (.slice A0 n0 c0) (.slice A n c), ownsV w.heap.size (b0 ++ bs), isV _, isV _, fileOf w.heap.size (b0 ++ bs) (sf : Int)] (by decide) (by kernel_rfl)
      · kernel_rfl
      · kernel_rfl
      · refine ⟨?r10s0, ?r10s1, ?r10s2, ?r10s3, ?r10s4, ?r10s5, ?r10s6, ?r10s7, ?r10s8, ?r10s9, ?r10s10, ?r10s11, ?r10s12, trivial⟩
        case r10s0 | r10s1 | r10s2 =>
          intro v W hE hd; simp only [Region.wanted, ↓reduceIte]; (try simp [deps, waitsOn, Region.binds, knowing, isV, ownsV, anyV] at hd); simp only [putAll, List.take_succ_cons, List.take_zero, List.drop_succ_cons, List.drop_zero, Act.put, List.setIfInBounds_toArray, List.set_cons_zero, List.set_cons_succ, Nat.zero_add, Nat.reduceAdd]; go_simp; exact ⟨Below.refl _ _, rfl⟩
        case r10s3 =>
          intro v W hE hd; simp only [Region.wanted, ↓reduceIte]; (try simp [deps, waitsOn, Region.binds, knowing, isV, ownsV, anyV] at hd); simp only [putAll, List.take_succ_cons, List.take_zero, List.drop_succ_cons, List.drop_zero, Act.put, List.setIfInBounds_toArray, List.set_cons_zero, List.set_cons_succ, Nat.zero_add, Nat.reduceAdd]
          have e1 := cell_below hE HD5.out.files
          go_simp
          exact ⟨Below.refl _ _, rfl⟩
        case r10s4 | r10s5 =>
          intro v W hE hd; simp only [Region.wanted, ↓reduceIte]; (try simp [deps, waitsOn, Region.binds, knowing, isV, ownsV, anyV] at hd); simp only [putAll, List.take_succ_cons, List.take_zero, List.drop_succ_cons, List.drop_zero, Act.put, List.setIfInBounds_toArray, List.set_cons_zero, List.set_cons_succ, Nat.zero_add, Nat.reduceAdd]; go_simp; exact ⟨Below.refl _ _, rfl⟩
        case r10s6 =>
          intro v W hE hd; simp only [Region.wanted, ↓reduceIte]; (try simp [deps, waitsOn, Region.binds, knowing, isV, ownsV, anyV] at hd); simp only [putAll, List.take_succ_cons, List.take_zero, List.drop_succ_cons, List.drop_zero, Act.put, List.setIfInBounds_toArray, List.set_cons_zero, List.set_cons_succ, Nat.zero_add, Nat.reduceAdd]
          have e1 := cell_below hE Hf05.out
          go_simp
          exact ⟨Below.refl _ _, rfl⟩
        case r10s7 =>
          intro v W hE hd; simp only [Region.wanted, ↓reduceIte]; (try simp [deps, waitsOn, Region.binds, knowing, isV, ownsV, anyV] at hd); simp only [putAll, List.take_succ_cons, List.take_zero, List.drop_succ_cons, List.drop_zero, Act.put, List.setIfInBounds_toArray, List.set_cons_zero, List.set_cons_succ, Nat.zero_add, Nat.reduceAdd]; go_simp; exact ⟨Below.refl _ _, rfl⟩
        case r10s8 =>
          intro v W hE hd; simp only [Region.wanted, ↓reduceIte]; (try simp [deps, waitsOn, Region.binds, knowing, isV, ownsV, anyV] at hd); simp only [putAll, List.take_succ_cons, List.take_zero, List.drop_succ_cons, List.drop_zero, Act.put, List.setIfInBounds_toArray, List.set_cons_zero, List.set_cons_succ, Nat.zero_add, Nat.reduceAdd]
          go_simp
          exact ⟨(Below.refl _ _).alloc (Nat.le_refl _) _, _, rfl, by rw [cell_of_row _ _ _ _ _ _ (heap_alloc_last _ _)]; rfl, by rw [cell_of_row _ _ _ _ _ _ (heap_alloc_last _ _)]; rfl⟩
        case r10s9 =>
          intro v W hE hd; simp only [Region.wanted, ↓reduceIte]; (try simp [deps, waitsOn, Region.binds, knowing, isV, ownsV, anyV] at hd); simp only [putAll, List.take_succ_cons, List.take_zero, List.drop_succ_cons, List.drop_zero, Act.put, List.setIfInBounds_toArray, List.set_cons_zero, List.set_cons_succ, Nat.zero_add, Nat.reduceAdd]
          obtain ⟨g, e1, e2, e3⟩ := hd
          have E2 := hid e2; have E3' := hid e3; clear e2 e3
          go_simp
          refine (concat_at g A0 n0 c0 b0 A n c bs W Hn0.out Hn.out (by omega) (by omega) (RK.rv Hr05.out |>.below hE) (RK.rv HA5.out |>.below hE) E2.out E3'.out).mono ?_
          rintro e w6 ⟨v6, rfl, hO6, hB6⟩
          have HO := hid hO6; have HB := hid hB6; clear hO6 hB6
          go_simp
          exact ⟨HB.out, HO.out.base (Nat.le_trans HK5.out.size hE.size)⟩
        case r10s10 =>
          intro v W hE hd; simp only [Region.wanted, ↓reduceIte]; (try simp [deps, waitsOn, Region.binds, knowing, isV, ownsV, anyV] at hd); simp only [putAll, List.take_succ_cons, List.take_zero, List.drop_succ_cons, List.drop_zero, Act.put, List.setIfInBounds_toArray, List.set_cons_zero, List.set_cons_succ, Nat.zero_add, Nat.reduceAdd]; go_simp; exact ⟨Below.refl _ _, rfl⟩
        case r10s11 =>
          intro v W hE hd; simp only [Region.wanted, ↓reduceIte]; (try simp [deps, waitsOn, Region.binds, knowing, isV, ownsV, anyV] at hd); simp only [putAll, List.take_succ_cons, List.take_zero, List.drop_succ_cons, List.drop_zero, Act.put, List.setIfInBounds_toArray, List.set_cons_zero, List.set_cons_succ, Nat.zero_add, Nat.reduceAdd]
          have e1 := cell_below hE Hf15.out
          go_simp
          exact ⟨Below.refl _ _, rfl⟩
        case r10s12 =>
          intro v W hE hd; simp only [Region.wanted, ↓reduceIte]; (try simp [deps, waitsOn, Region.binds, knowing, isV, ownsV, anyV] at hd); simp only [putAll, List.take_succ_cons, List.take_zero, List.drop_succ_cons, List.drop_zero, Act.put, List.setIfInBounds_toArray, List.set_cons_zero, List.set_cons_succ, Nat.zero_add, Nat.reduceAdd]
          obtain ⟨h9, h11⟩ := hd
          obtain ⟨A9, c9, e9, -, -⟩ := OB.read h9
          rw [e9] at h9
          obtain ⟨k, hk⟩ : ∃ k, k = (b0 ++ bs).length := ⟨_, rfl⟩
          rw [← hk] at e9 h9
          have H9 := hid h9; clear h9 hk
          go_simp
          exact ⟨Below.refl _ _, _, rfl, H9.out⟩
      · rintro v W hE ⟨-, -, -, e3, e4, -, -, -, -, -, -, -, e12, -⟩
        have e3 := (show v 3 = _ from e3)
        have e4 := (show v 4 = _ from e4)
        have e12 := (show _ from e12)
        simp only [putAll, List.take_succ_cons, List.take_zero, List.drop_succ_cons, List.drop_zero, Act.put, List.setIfInBounds_toArray, List.set_cons_zero, List.set_cons_succ, Nat.zero_add, Nat.reduceAdd]
        obtain ⟨x, e12, hO⟩ := e12
        obtain ⟨Ax, cx, ex, hFV⟩ := FileV.made hO HS.out (show sf ≤ (b0 ++ bs).length by have := Hn0.out; simp; omega) (by have := hlc.out; have := Hn0.out; have := Hn.out; simp; omega)
        obtain ⟨k, hk⟩ : ∃ k, k = (b0 ++ bs).length := ⟨_, rfl⟩
        rw [← hk] at ex hFV
        subst ex
        have HFV := hid hFV; clear hFV hO hk
        rw [e3, e4, e12]
        have HD6 := hid (HD5.out.ext hE)
        have HM6 := hid (HM5.out.ext hE)
        have HK6 := hid (HK5.out.trans (Kept2.of_ext hE))
        have HH6 := hid (HH.out.kept HK6.out hd hm)
        obtain ⟨w7, hrun, hM7, ht7⟩ := HM6.out.store nm (.agg #[.slice Ax k cx, .int .i64 (sf : Int)]) rfl hn (by have := HGl.out; omega)
        have HM7 := hid hM7; have Ht7 := hid ht7.grown
        clear e3 e4 e12 hM7 ht7 hE
        go_wp2
        go_ret
        have hk := Kept2.of_grown (d := d) Ht7.out (.inr rfl)
        exact ⟨by rw [E3.out]; rfl, HD6.out.of_block (Ht7.out.block d HD6.out.lt (fun e => hne (by simpa using e))), ⟨_, HM7.out, by rw [E4.out]; exact (HH6.out.put HFV.out).kept hk hd hm⟩, HK6.out.trans hk⟩
end Go.Proofs.YtakebdeldndaaaaGreatDoor
/- Lists of files: by rising names; a store at a name that is there. Plain. A disk's whole state. -/
namespace Go.Proofs.YtakebdeldndaaaaGreatDoor
open Go Go.RowKit
set_option linter.unusedSimpArgs false
set_option linter.unusedVariables false
theorem bb_irrefl (a : List UInt8) : bytesBefore a a = false := WideShapes.before_irrefl (.string a)
theorem bb_trans {a b c : List UInt8} (h1 : bytesBefore a b = true) (h2 : bytesBefore b c = true) : bytesBefore a c = true := WideShapes.before_trans (a := .string a) (b := .string b) (c := .string c) h1 h2
theorem bb_asymm {a b : List UInt8} (h : bytesBefore a b = true) : bytesBefore b a = false := by
  cases h2 : bytesBefore b a
  · rfl
  · exact absurd (bb_trans h h2) (by rw [bb_irrefl]; decide)
theorem bb_ne {a b : List UInt8} (h : bytesBefore a b = true) : a ≠ b := by
  rintro rfl
  rw [bb_irrefl] at h; cases h
def Up {α : Type} (l : List (List UInt8 × α)) : Prop := l.Pairwise fun p q => bytesBefore p.1 q.1 = true
theorem pairwise_of_rising {H : Type} : ∀ (l : List (Lit × DataW H)), DataW.rising l = true → l.Pairwise fun p q => p.1.before q.1 = true
  | [], _ => .nil
  | [x], _ => by simp
  | x :: y :: r, h => by
    have h' : x.1.before y.1 = true ∧ DataW.rising (y :: r) = true := by
      unfold DataW.rising at h
      simpa using h
    have ih := pairwise_of_rising (y :: r) h'.2
    refine List.pairwise_cons.2 ⟨fun q hq => ?_, ih⟩
    rcases List.mem_cons.1 hq with rfl | hq
    · exact h'.1
    · exact WideShapes.before_trans h'.1 ((List.pairwise_cons.1 ih).1 q hq)
theorem MapAt.up {w : World} {m : Nat} {G : Raw} (h : MapAt w m G) : Up G := by
  obtain ⟨es, clock, hb, F, hs, e⟩ := h
  have h1 := pairwise_of_rising _ (Maps.fit_rising keyedS F)
  simp only [DataW.map.injEq] at e
  rw [← e] at h1
  unfold rawL at h1
  rw [List.pairwise_map] at h1
  exact h1
theorem Up.nodup {α : Type} {l : List (List UInt8 × α)} (h : Up l) : (l.map (·.1)).Nodup := by
  rw [List.nodup_iff_pairwise_ne, List.pairwise_map]
  exact h.imp fun hab => bb_ne hab
theorem Held.names {w : World} {S : Nat → Prop} : ∀ {G : Raw} {F : Files}, Held w S G F → G.map (·.1) = F.map (·.1)
  | [], [], _ => rfl
  | p :: G, q :: F, ⟨h1, _, h3⟩ => by rw [List.map_cons, List.map_cons, h1, h3.names]
theorem up_names {α β : Type} {l : List (List UInt8 × α)} {k : List (List UInt8 × β)} (h : Up l) (e : l.map (·.1) = k.map (·.1)) : Up k := by
  have h1 : (l.map (·.1)).Pairwise fun p q => bytesBefore p q = true := by rw [List.pairwise_map]; exact h
  rw [e, List.pairwise_map] at h1
  exact h1
theorem DelL_none {α : Type} (nm : List UInt8) (l : List (List UInt8 × α)) (h : ∀ p ∈ l, p.1 ≠ nm) : l.filter (fun p => !(p.1 == nm)) = l := by
  rw [List.filter_eq_self]
  intro p hp
  simpa using h p hp
theorem putL_there (nm : List UInt8) (v : Value) : ∀ {G : Raw}, Up G → nm ∈ G.map (·.1) → putL nm v G = G.map fun p => if p.1 == nm then (nm, v) else p
  | [], _, h => by simp at h
  | p :: G, hu, h => by
    obtain ⟨h1, h2⟩ := List.pairwise_cons.1 hu
    unfold putL delL
    by_cases e : p.1 = nm
    · have hn : ∀ q ∈ G, q.1 ≠ nm := fun q hq => by rw [← e]; exact (bb_ne (h1 q hq)).symm
      rw [List.filter_cons, if_neg (by simp [e]), DelL_none nm G hn, List.map_cons, if_pos (by simp [e])]
      have : G.map (fun p => if p.1 == nm then (nm, v) else p) = G := by
        conv => rhs; rw [← List.map_id G]
        refine List.map_congr_left fun q hq => ?_
        rw [if_neg (by simpa using hn q hq)]; rfl
      rw [this]
      cases G with
      | nil => rfl
      | cons q r =>
        unfold insL
        rw [if_pos]
        have := h1 q (by simp)
        rw [e] at this; exact this
    · have hm : nm ∈ G.map (·.1) := by
        rw [List.map_cons, List.mem_cons] at h
        rcases h with h | h
        · exact absurd h.symm e
        · exact h
      obtain ⟨q, hq, hqn⟩ := List.mem_map.1 hm
      have hb : bytesBefore nm p.1 = false := bb_asymm (by rw [← hqn]; exact h1 q hq)
      have ih := putL_there nm v h2 hm
      unfold putL delL at ih
      rw [List.filter_cons, if_pos (by simp [e])]
      unfold insL
      show (if bytesBefore nm p.1 = true then _ else _) = _
      rw [if_neg (by rw [hb]; decide), ih, List.map_cons, if_neg (by simpa using e)]
theorem putF_there (nm : List UInt8) (v : File) : ∀ {G : Files}, Up G → nm ∈ G.map (·.1) → putF nm v G = G.map fun p => if p.1 == nm then (nm, v) else p
  | [], _, h => by simp at h
  | p :: G, hu, h => by
    obtain ⟨h1, h2⟩ := List.pairwise_cons.1 hu
    unfold putF delF
    by_cases e : p.1 = nm
    · have hn : ∀ q ∈ G, q.1 ≠ nm := fun q hq => by rw [← e]; exact (bb_ne (h1 q hq)).symm
      rw [List.filter_cons, if_neg (by simp [e]), DelL_none nm G hn, List.map_cons, if_pos (by simp [e])]
      have : G.map (fun p => if p.1 == nm then (nm, v) else p) = G := by
        conv => rhs; rw [← List.map_id G]
        refine List.map_congr_left fun q hq => ?_
        rw [if_neg (by simpa using hn q hq)]; rfl
      rw [this]
      cases G with
      | nil => rfl
      | cons q r =>
        unfold insF
        rw [if_pos]
        have := h1 q (by simp)
        rw [e] at this; exact this
    · have hm : nm ∈ G.map (·.1) := by
        rw [List.map_cons, List.mem_cons] at h
        rcases h with h | h
        · exact absurd h.symm e
        · exact h
      obtain ⟨q, hq, hqn⟩ := List.mem_map.1 hm
      have hb : bytesBefore nm p.1 = false := bb_asymm (by rw [← hqn]; exact h1 q hq)
      have ih := putF_there nm v h2 hm
      unfold putF delF at ih
      rw [List.filter_cons, if_pos (by simp [e])]
      unfold insF
      show (if bytesBefore nm p.1 = true then _ else _) = _
      rw [if_neg (by rw [hb]; decide), ih, List.map_cons, if_neg (by simpa using e)]
theorem length_insF (x : List UInt8 × File) : ∀ F : Files, (insF x F).length = F.length + 1
  | [] => rfl
  | y :: r => by
    unfold insF
    split
    · simp
    · simp [length_insF x r]
theorem length_delF_le (nm : List UInt8) (F : Files) : (delF nm F).length ≤ F.length := List.length_filter_le _ _
theorem length_putF_le (nm : List UInt8) (f : File) (F : Files) : (putF nm f F).length ≤ F.length + 1 := by
  unfold putF
  rw [length_insF]
  have := length_delF_le nm F
  omega
theorem mem_of_atF {F : Files} {nm : List UInt8} {f : File} (h : atF F nm = some f) : nm ∈ F.map (·.1) := by
  unfold atF at h
  cases hf : F.find? (·.1 == nm) with
  | none => rw [hf] at h; cases h
  | some p => exact List.mem_map.2 ⟨p, List.mem_of_find?_eq_some hf, by have := List.find?_some hf; simpa using this⟩
theorem length_putF_there {nm : List UInt8} {f f0 : File} {F : Files} (hu : Up F) (h : atF F nm = some f0) : (putF nm f F).length = F.length := by
  rw [putF_there nm f hu (mem_of_atF h), List.length_map]
theorem length_delF_there {nm : List UInt8} {f0 : File} {F : Files} (hu : Up F) (h : atF F nm = some f0) : (delF nm F).length + 1 = F.length := by
  have h1 := length_putF_there (f := f0) hu h
  unfold putF at h1
  rwa [length_insF] at h1
structure DiskIs (w : World) (S : Nat → Prop) (d m : Nat) (q l : Int) (F : Files) : Prop where
  str : DiskS w d m q l
  map : ∃ G, MapAt w m G ∧ Held w S G F
  ne : d ≠ m
  own : S d
  ownM : S m
  fresh : ∀ k, w.heap.size ≤ k → ¬ S k
  few : F.length ≤ 200
  lr : -9223372036854775808 ≤ l ∧ l ≤ 9223372036854775807
theorem DiskIs.up {w : World} {S : Nat → Prop} {d m : Nat} {q l : Int} {F : Files} (h : DiskIs w S d m q l F) : Up F := by
  obtain ⟨G, hG, hH⟩ := h.map
  exact up_names hG.up hH.names
theorem DiskIs.ext {w w' : World} {S : Nat → Prop} {d m : Nat} {q l : Int} {F : Files} (h : DiskIs w S d m q l F) (hE : Ext w w') : DiskIs w' S d m q l F := by
  obtain ⟨G, hG, hH⟩ := h.map
  exact ⟨h.str.ext hE, ⟨G, hG.ext hE, hH.kept (Kept2.of_ext (d := d) (m := m) hE) h.own h.ownM⟩, h.ne, h.own, h.ownM, fun k hk => h.fresh k (Nat.le_trans hE.size hk), h.few, h.lr⟩
theorem DiskIs.kept {w w' : World} {S : Nat → Prop} {d m d' m' : Nat} {q l : Int} {F : Files} (h : DiskIs w S d m q l F) (hk : Kept2 d' m' w w') (hd : S d') (hm : S m') (h1 : d ≠ d') (h2 : d ≠ m') (h3 : m ≠ d') (h4 : m ≠ m') : DiskIs w' S d m q l F := by
  obtain ⟨G, hG, hH⟩ := h.map
  refine ⟨h.str.of_block (hk.block d h.str.lt h1 h2), ⟨G, ?_, hH.kept hk hd hm⟩, h.ne, h.own, h.ownM, fun k hk' => h.fresh k (Nat.le_trans hk.size hk'), h.few, h.lr⟩
  have hlt := hG.lt
  obtain ⟨es, clock, e1, e2⟩ := hG
  exact ⟨es, clock, by rw [hk.block m hlt h3 h4]; exact e1, e2⟩
theorem FileV.more {w : World} {S S' : Nat → Prop} (hS : ∀ k, k < w.heap.size → (S' k ↔ S k)) {v : Value} {f : File} (h : FileV w S v f) : FileV w S' v f := by
  obtain ⟨A, c, h1, h2, h3, h4, h5, h6⟩ := h
  exact ⟨A, c, h1, h2, h3, h4, h5, h6.mono fun k hk => ⟨hk.1, fun h => hk.2 ((hS k hk.1).1 h)⟩⟩
theorem Held.more {w : World} {S S' : Nat → Prop} (hS : ∀ k, k < w.heap.size → (S' k ↔ S k)) : ∀ {G : Raw} {F : Files}, Held w S G F → Held w S' G F
  | [], [], _ => trivial
  | _ :: _, _ :: _, ⟨h1, h2, h3⟩ => ⟨h1, h2.more hS, h3.more hS⟩
theorem burnL_range {l : Int} (h : -9223372036854775808 ≤ l ∧ l ≤ 9223372036854775807) : -9223372036854775808 ≤ burnL l ∧ burnL l ≤ 9223372036854775807 := by
  unfold burnL; split <;> omega
theorem DiskIs.after {w w' : World} {S : Nat → Prop} {d m : Nat} {q l l' : Int} {F F' : Files} (h : DiskIs w S d m q l F) (hs : DiskS w' d m q l') (hm : ∃ G, MapAt w' m G ∧ Held w' S G F') (hk : Kept2 d m w w') (hf : F'.length ≤ 200)
    (hl : -9223372036854775808 ≤ l' ∧ l' ≤ 9223372036854775807) : DiskIs w' S d m q l' F' := ⟨hs, hm, h.ne, h.own, h.ownM, fun k hk' => h.fresh k (Nat.le_trans hk.size hk'), hf, hl⟩
/-! ### Append, Sync, Remove, Truncate -/
theorem appF_few {q l : Int} {F : Files} {nm bs : List UInt8} (hu : Up F) (hf : F.length ≤ 200) : (appF q l F nm bs).length ≤ 200 := by
  unfold appF
  split
  · rename_i h
    cases hat : atF F nm with
    | some f => rw [length_putF_there hu hat]; exact hf
    | none =>
      have := length_putF_le nm ⟨(oldF F nm).b ++ bs, (oldF F nm).safe⟩ F
      unfold appE at h
      by_cases h1 : l = 0
      · rw [if_pos h1] at h; cases h
      rw [if_neg h1] at h
      by_cases h2 : mayB nm = false
      · rw [if_pos h2] at h; cases h
      rw [if_neg h2] at h
      by_cases h3 : 65536 < (oldF F nm).b.length + bs.length ∨ (atF F nm = none ∧ 200 ≤ F.length)
      · rw [if_pos h3] at h; cases h
      have : ¬ 200 ≤ F.length := fun h4 => h3 (.inr ⟨hat, h4⟩)
      omega
  · exact hf
theorem append_at2 {w : World} {S : Nat → Prop} {d m : Nat} {q l : Int} {F : Files} (h : DiskIs w S d m q l F) (nm : List UInt8) (hn : nm.length ≤ 9223372036854775807) (A : Option Addr) (n c : Nat) (bs : List UInt8) (hnb : n = bs.length) (hn1 : n ≤ 100000000) (hA : RS w (fun k => k = d ∨ k = m) A bs) :
    Calls Tryz.prog 12 #[.pointer (some ⟨d, 0, none⟩), .string (str nm), .slice A n c] w fun e w' => e = .returned (.int .i64 (appE q l F nm bs)) ∧ DiskIs w' S d m q (burnL l) (appF q l F nm bs) ∧ Kept2 d m w w' := by
  obtain ⟨G, hG, hH⟩ := h.map
  refine (append_raw h.str hG hH h.ne h.own h.ownM h.fresh h.few h.lr nm hn A n c bs hnb hn1 (fun k => k = d ∨ k = m) (.inl rfl) (.inr rfl) hA).mono ?_
  rintro e w' ⟨he, h1, h2, h3⟩
  exact ⟨he, h.after h1 h2 h3 (appF_few h.up h.few) (burnL_range h.lr), h3⟩
theorem append_at {w : World} {S : Nat → Prop} {d m : Nat} {q l : Int} {F : Files} (h : DiskIs w S d m q l F) (nm : List UInt8) (hn : nm.length ≤ 9223372036854775807) (A : Option Addr) (n c : Nat) (bs : List UInt8) (hnb : n = bs.length) (hn1 : n ≤ 100000000) (hA : RS w S A bs) :
    Calls Tryz.prog 12 #[.pointer (some ⟨d, 0, none⟩), .string (str nm), .slice A n c] w fun e w' => e = .returned (.int .i64 (appE q l F nm bs)) ∧ DiskIs w' S d m q (burnL l) (appF q l F nm bs) ∧ Kept2 d m w w' :=
  append_at2 h nm hn A n c bs hnb hn1 (hA.mono fun k hk => ⟨hk.1, by rintro (rfl | rfl); exact hk.2 h.own; exact hk.2 h.ownM⟩)
def knownEF (l : Int) (F : Files) (nm : List UInt8) : Int := if l = 0 then 14 else if (atF F nm).isSome then 0 else 11
def syncF (l : Int) (F : Files) (nm : List UInt8) : Files := if l = 0 then F else match atF F nm with
  | none => F
  | some f => putF nm ⟨f.b, f.b.length⟩ F
def dropF (l : Int) (F : Files) (nm : List UInt8) : Files := if l = 0 then F else match atF F nm with
  | none => F
  | some _ => delF nm F
theorem knownE_eq {w : World} {S : Nat → Prop} {l : Int} {G : Raw} {F : Files} (h : Held w S G F) (nm : List UInt8) : knownE l G nm = knownEF l F nm := by
  unfold knownE knownEF
  rcases h.at_ nm with ⟨h1, h2⟩ | ⟨f, v, h1, h2, -⟩ <;> rw [h1, h2] <;> rfl
theorem sync_at {w : World} {S : Nat → Prop} {d m : Nat} {q l : Int} {F : Files} (h : DiskIs w S d m q l F) (nm : List UInt8) (hn : nm.length ≤ 9223372036854775807) :
    Calls Tryz.prog 59 #[.pointer (some ⟨d, 0, none⟩), .string (str nm)] w fun e w' => e = .returned (.int .i64 (knownEF l F nm)) ∧ DiskIs w' S d m q (burnL l) (syncF l F nm) ∧ Kept2 d m w w' := by
  obtain ⟨G, hG, hH⟩ := h.map
  have hu := h.up
  refine (sync_raw h.str hG h.ne h.lr nm hn (by have := hH.length; have := h.few; omega)).mono ?_
  rintro e w' ⟨he, h1, h2, h3⟩
  have hH' := hH.kept h3 h.own h.ownM
  refine ⟨by rw [he, knownE_eq hH], h.after h1 ⟨_, h2, ?_⟩ h3 ?_ (burnL_range h.lr), h3⟩
  · unfold syncG syncF
    split
    · exact hH'
    · rcases hH'.at_ nm with ⟨e1, e2⟩ | ⟨f, v, e1, e2, A, c, rfl, hc, hcm, hs, hb, hr⟩
      · rw [e1, e2]; exact hH'
      · rw [e1, e2]
        exact hH'.put ⟨A, c, rfl, hc, hcm, Nat.le_refl _, hb, hr⟩
  · unfold syncF
    split
    · exact h.few
    · cases hat : atF F nm with
      | none => exact h.few
      | some f => show (putF nm _ F).length ≤ 200; rw [length_putF_there hu hat]; exact h.few
theorem remove_at {w : World} {S : Nat → Prop} {d m : Nat} {q l : Int} {F : Files} (h : DiskIs w S d m q l F) (nm : List UInt8) (hn : nm.length ≤ 9223372036854775807) :
    Calls Tryz.prog 46 #[.pointer (some ⟨d, 0, none⟩), .string (str nm)] w fun e w' => e = .returned (.int .i64 (knownEF l F nm)) ∧ DiskIs w' S d m q (burnL l) (dropF l F nm) ∧ Kept2 d m w w' := by
  obtain ⟨G, hG, hH⟩ := h.map
  refine (remove_raw h.str hG h.ne h.lr nm hn (by have := hH.length; have := h.few; omega)).mono ?_
  rintro e w' ⟨he, h1, h2, h3⟩
  have hH' := hH.kept h3 h.own h.ownM
  refine ⟨by rw [he, knownE_eq hH], h.after h1 ⟨_, h2, ?_⟩ h3 ?_ (burnL_range h.lr), h3⟩
  · unfold dropG dropF
    split
    · exact hH'
    · rcases hH'.at_ nm with ⟨e1, e2⟩ | ⟨f, v, e1, e2, -⟩
      · rw [e1, e2]; exact hH'
      · rw [e1, e2]; exact hH'.del nm
  · unfold dropF
    split
    · exact h.few
    · cases hat : atF F nm with
      | none => exact h.few
      | some f => exact Nat.le_trans (length_delF_le nm F) h.few
theorem fuse_at {w : World} {S : Nat → Prop} {d m : Nat} {q l n : Int} {F : Files} (h : DiskIs w S d m q l F) (hn : n ≤ 9223372036854775807) :
    Calls Tryz.prog 15 #[.pointer (some ⟨d, 0, none⟩), .int .i64 n] w fun e w' => e = .returned (.tuple #[]) ∧ DiskIs w' S d m q (max n 0) F ∧ Kept2 d m w w' := by
  obtain ⟨G, hG, hH⟩ := h.map
  refine (fuse_raw h.str hG h.ne).mono ?_
  rintro e w' ⟨he, h1, h2, h3⟩
  exact ⟨he, h.after h1 ⟨G, h2, hH.kept h3 h.own h.ownM⟩ h3 h.few (by omega), h3⟩
theorem readF_at {w : World} {S : Nat → Prop} {d m : Nat} {q l : Int} {F : Files} (h : DiskIs w S d m q l F) (nm : List UInt8) (hn : nm.length ≤ 9223372036854775807) :
    Calls Tryz.prog 29 #[.pointer (some ⟨d, 0, none⟩), .string (str nm)] w fun e w' => ∃ v, e = .returned (.tuple #[v, .int .i64 (readE F nm)]) ∧ OB w' w.heap.size v (readB F nm) ∧ Ext w w' := by
  obtain ⟨G, hG, hH⟩ := h.map
  exact read_at h.str hG hH nm hn
theorem newDisk_at {w : World} (q : Int) :
    Calls Tryz.prog 10 #[.int .i64 q] w fun e w' => ∃ d m, e = .returned (.pointer (some ⟨d, 0, none⟩)) ∧ w.heap.size ≤ d ∧ w.heap.size ≤ m ∧ DiskIs w' (fun k => k = d ∨ k = m) d m (max q 0) (-1) [] ∧ Ext w w' := by
  refine (new_disk q w).mono ?_
  rintro e w' ⟨d, m, he, hne, h1, h2, h3, h4, h5⟩
  have hd := h3.lt
  have hm := h4.lt
  exact ⟨d, m, he, h1, h2, ⟨h3, ⟨[], h4, trivial⟩, hne, .inl rfl, .inr rfl, fun k hk => by omega, by simp, by omega⟩, h5⟩
end Go.Proofs.YtakebdeldndaaaaGreatDoor
/- The walk of disk.Turn. -/
namespace Go.Proofs.YtakebdeldndaaaaGreatDoor
open Go Go.RowKit
set_option linter.unusedSimpArgs false
set_option linter.unusedVariables false
end Go.Proofs.YtakebdeldndaaaaGreatDoor
/- The walk of disk.Clone. -/
namespace Go.Proofs.YtakebdeldndaaaaGreatDoor
open Go Go.RowKit
set_option linter.unusedSimpArgs false
set_option linter.unusedVariables false
end Go.Proofs.YtakebdeldndaaaaGreatDoor
/- The walk of disk.Rename. -/
namespace Go.Proofs.YtakebdeldndaaaaGreatDoor
open Go Go.RowKit
set_option linter.unusedSimpArgs false
set_option linter.unusedVariables false
def renEF (l : Int) (F : Files) (a b : List UInt8) : Int := if l = 0 then 14 else if atF F a = none then 11 else if mayB b = false then 5 else if (atF F b).isSome then 12 else 0
def renF (l : Int) (F : Files) (a b : List UInt8) : Files := match atF F a with
  | none => F
  | some f => if renEF l F a b = 0 then putF b f (delF a F) else F
set_option maxRecDepth 100000 in
set_option maxHeartbeats 2000000 in
theorem rename_at {w : World} {S : Nat → Prop} {d m : Nat} {q l : Int} {F : Files} (h : DiskIs w S d m q l F) (na nb : List UInt8) (hna : na.length ≤ 9223372036854775807) (hnb : nb.length ≤ 9223372036854775807) :
    Calls Tryz.prog 61 #[.pointer (some ⟨d, 0, none⟩), .string (str na), .string (str nb)] w fun e w' => e = .returned (.int .i64 (renEF l F na nb)) ∧ DiskIs w' S d m q (burnL l) (renF l F na nb) ∧ Kept2 d m w w' := by
  have H := hid h
  obtain ⟨G, hG, hH⟩ := h.map
  have HG := hid hG; have HH := hid hH
  have hzf := zero_file
  unfold zfile at hzf
  have hmc := fun w => may_at nb w
  clear h hG hH
  go_enter Tryz.func61, Tryz.ntmps61
  go_wp2_with fail
  have hcc := known_raw H.out.str HG.out H.out.ne H.out.lr na hna
  refine hcc.mono ?_; clear hcc
  rintro e w1 ⟨rfl, h1, hg1, k1⟩
  have H1 := hid h1; have HG1 := hid hg1; have K1 := hid k1
  clear h1 hg1 k1
  have hdone : ∀ (w' : World), Ext w1 w' → renF l F na nb = F → DiskIs w' S d m q (burnL l) (renF l F na nb) ∧ Kept2 d m w w' := fun w' hE e => by
    have hk := K1.out.trans (Kept2.of_ext hE)
    rw [e]
    exact ⟨H.out.after (H1.out.ext hE) ⟨_, HG1.out.ext hE, HH.out.kept hk H.out.own H.out.ownM⟩ hk H.out.few (burnL_range H.out.lr), hk⟩
  have Hdone := hid hdone; clear hdone
  by_cases h0 : l = 0
  · have e1 := hid (show knownV l G na = .agg #[.slice none 0 0, .int .i64 0] by unfold knownV; rw [if_pos h0]; rfl)
    have e2 := hid (show knownE l G na = 14 by unfold knownE; rw [if_pos h0])
    have e3 := hid (show renEF l F na nb = 14 by unfold renEF; rw [if_pos h0])
    have e4 := hid (show renF l F na nb = F by unfold renF; rw [e3.out]; split <;> rfl)
    rw [e1.out, e2.out]
    go_wp2
    go_ret
    exact ⟨by rw [e3.out]; rfl, Hdone.out _ ((Below.refl _ _).alloc (Nat.le_refl _) _) e4.out⟩
  rcases HH.out.at_ na with ⟨a1, a2⟩ | ⟨f, v, a1, a2, A, c, rfl, hc, hcm, hs, hb64, hr⟩
  · have e1 := hid (show knownV l G na = .agg #[.slice none 0 0, .int .i64 0] by unfold knownV; rw [if_neg h0, a2]; rfl)
    have e2 := hid (show knownE l G na = 11 by unfold knownE; rw [if_neg h0, a2]; rfl)
    have e3 := hid (show renEF l F na nb = 11 by unfold renEF; rw [if_neg h0, if_pos a1])
    have e4 := hid (show renF l F na nb = F by unfold renF; rw [a1])
    rw [e1.out, e2.out]
    clear a1 a2
    go_wp2
    go_ret
    exact ⟨by rw [e3.out]; rfl, Hdone.out _ ((Below.refl _ _).alloc (Nat.le_refl _) _) e4.out⟩
  obtain ⟨n, hnn⟩ : ∃ n, n = f.b.length := ⟨_, rfl⟩
  rw [← hnn] at a2 hc hs hb64
  have e1 := hid (show knownV l G na = .agg #[.slice A n c, .int .i64 (f.safe : Int)] by unfold knownV; rw [if_neg h0, a2]; rfl)
  have e2 := hid (show knownE l G na = 0 by unfold knownE; rw [if_neg h0, a2]; rfl)
  rw [e1.out, e2.out]
  have A1 := hid a1; have Hnn := hid hnn; have Hr := hid hr
  clear a1 a2 hnn hr
  go_wp2_with fail
  refine (hmc _).mono ?_
  clear hmc
  rintro e w3 ⟨rfl, hb3⟩
  have hE3 : Ext w1 w3 := Ext.trans' ((Below.refl _ _).alloc (Nat.le_refl _) _) hb3
  have HE3 := hid hE3
  have Hf0 := hid (cell_below hb3 (show (w1.alloc (.cells #[.slice A n c, .int .i64 (f.safe : Int)] 81)).cell? ⟨w1.heap.size, 0, none⟩ = some (.slice A n c) by rw [cell_of_row _ _ _ _ _ _ (heap_alloc_last w1 _)]; rfl))
  have Hf1 := hid (cell_below hb3 (show (w1.alloc (.cells #[.slice A n c, .int .i64 (f.safe : Int)] 81)).cell? ⟨w1.heap.size, 1, none⟩ = some (.int .i64 (f.safe : Int)) by rw [cell_of_row _ _ _ _ _ _ (heap_alloc_last w1 _)]; rfl))
  clear hE3 hb3
  cases hmay : mayB nb
  · have e3 := hid (show renEF l F na nb = 5 by unfold renEF; rw [if_neg h0, if_neg (by rw [A1.out]; simp), if_pos hmay])
    have e4 := hid (show renF l F na nb = F by unfold renF; rw [e3.out, A1.out]; rfl)
    clear hmay
    go_wp2
    go_ret
    exact ⟨by rw [e3.out]; rfl, Hdone.out _ HE3.out e4.out⟩
  have Hmay := hid hmay; clear hmay
  have hlk := (HG1.out.ext HE3.out).look nb hnb
  have c2 := (H1.out.ext HE3.out).files
  have g3 : w1.heap.size < w3.heap.size := World.block_lt_of_cell? w3 ⟨w1.heap.size, 0, none⟩ Hf0.out
  rcases HH.out.at_ nb with ⟨b1, b2⟩ | ⟨f2, v, b1, b2, A2, c2', rfl, -, -, -, -, -⟩
  rotate_left
  · have e3 := hid (show renEF l F na nb = 12 by unfold renEF; rw [if_neg h0, if_neg (by rw [A1.out]; simp), if_neg (by rw [Hmay.out]; decide), if_pos (by rw [b1]; rfl)])
    have e4 := hid (show renF l F na nb = F by unfold renF; rw [e3.out, A1.out]; rfl)
    rw [b2] at hlk
    simp only [Option.getD_some, Option.isSome_some] at hlk
    clear b1 b2
    go_wp2
    go_ret
    exact ⟨by rw [e3.out]; rfl, Hdone.out _ (Ext.trans' HE3.out ((Below.refl _ _).alloc (Nat.le_refl _) _)) e4.out⟩
  have E3 := hid (show renEF l F na nb = 0 by unfold renEF; rw [if_neg h0, if_neg (by rw [A1.out]; simp), if_neg (by rw [Hmay.out]; decide), if_neg (by rw [b1]; decide)])
  have E4 := hid (show renF l F na nb = putF nb f (delF na F) by unfold renF; rw [E3.out, A1.out]; rfl)
  rw [b2] at hlk
  simp only [Option.getD_none, Option.isSome_none, zfile] at hlk
  have B1 := hid b1
  clear b1 b2
  have hE4 : Ext w1 (w3.alloc (.cells #[.slice none 0 0, .int .i64 0] 81)) := Ext.trans' HE3.out ((Below.refl _ _).alloc (Nat.le_refl _) _)
  obtain ⟨w5, hrun, hM5, ht5⟩ := (HG1.out.ext hE4).drop na hna 0
  have Ht5 := hid ht5.grown
  have HM5 := hid hM5
  have HD5 := hid (show DiskS w5 d m q (burnL l) from (H1.out.ext hE4).of_block (ht5.grown.block d (H1.out.ext hE4).lt (fun e => H.out.ne (by simpa using e))))
  have HK5 := hid ((K1.out.trans (Kept2.of_ext hE4)).trans (Kept2.of_grown ht5.grown (.inr rfl)))
  have hmn : w1.heap.size ≠ m := by
    have := HG1.out.lt
    omega
  have hbk : w5.heap[w1.heap.size]? = w3.heap[w1.heap.size]? := (ht5.grown.block w1.heap.size (by simp; omega) (fun e => hmn (by simpa using e))).trans (by first | exact heap_alloc_old _ _ g3 | exact heap_alloc_old _ _ _ g3 | exact heap_alloc_old _ g3)
  have Hf05 := hid ((World.cell?_of_block (a := ⟨w1.heap.size, 0, none⟩) hbk).trans Hf0.out)
  have Hf15 := hid ((World.cell?_of_block (a := ⟨w1.heap.size, 1, none⟩) hbk).trans Hf1.out)
  have c2' := (H1.out.ext hE4).files
  clear hM5 ht5 hbk hE4
  go_wp2_with fail
  clear hrun hlk c2 c2'
  apply wp_drawn_last 6 [isV _, isV _, isV _, isV _, isV _, isV _] (by decide) (by kernel_rfl)
  · kernel_rfl
  · kernel_rfl
  · refine ⟨?r10s0, ?r10s1, ?r10s2, ?r10s3, ?r10s4, ?r10s5, trivial⟩
    case r10s0 | r10s1 | r10s2 =>
      intro v W hE hd; simp only [Region.wanted, ↓reduceIte]; (try simp [deps, waitsOn, Region.binds, knowing, isV, ownsV, anyV] at hd); simp only [putAll, List.take_succ_cons, List.take_zero, List.drop_succ_cons, List.drop_zero, Act.put, List.setIfInBounds_toArray, List.set_cons_zero, List.set_cons_succ, Nat.zero_add, Nat.reduceAdd]; go_simp; exact ⟨Below.refl _ _, rfl⟩
    case r10s3 =>
      intro v W hE hd; simp only [Region.wanted, ↓reduceIte]; (try simp [deps, waitsOn, Region.binds, knowing, isV, ownsV, anyV] at hd); simp only [putAll, List.take_succ_cons, List.take_zero, List.drop_succ_cons, List.drop_zero, Act.put, List.setIfInBounds_toArray, List.set_cons_zero, List.set_cons_succ, Nat.zero_add, Nat.reduceAdd]
      have e1 := cell_below hE HD5.out.files
      go_simp
      exact ⟨Below.refl _ _, rfl⟩
    case r10s4 =>
      intro v W hE hd; simp only [Region.wanted, ↓reduceIte]; (try simp [deps, waitsOn, Region.binds, knowing, isV, ownsV, anyV] at hd); simp only [putAll, List.take_succ_cons, List.take_zero, List.drop_succ_cons, List.drop_zero, Act.put, List.setIfInBounds_toArray, List.set_cons_zero, List.set_cons_succ, Nat.zero_add, Nat.reduceAdd]; go_simp; exact ⟨Below.refl _ _, rfl⟩
    case r10s5 =>
      intro v W hE hd; simp only [Region.wanted, ↓reduceIte]; (try simp [deps, waitsOn, Region.binds, knowing, isV, ownsV, anyV] at hd); simp only [putAll, List.take_succ_cons, List.take_zero, List.drop_succ_cons, List.drop_zero, Act.put, List.setIfInBounds_toArray, List.set_cons_zero, List.set_cons_succ, Nat.zero_add, Nat.reduceAdd]
      have e1 := cell_below hE Hf05.out
      have e2 := cell_below hE Hf15.out
      go_simp
      exact ⟨Below.refl _ _, rfl⟩
  · rintro v W hE ⟨-, -, -, e3, e4, e5, -⟩
    have e3 := (show v 3 = _ from e3)
    have e4 := (show v 4 = _ from e4)
    have e5 := (show v 5 = _ from e5)
    simp only [putAll, List.take_succ_cons, List.take_zero, List.drop_succ_cons, List.drop_zero, Act.put, List.setIfInBounds_toArray, List.set_cons_zero, List.set_cons_succ, Nat.zero_add, Nat.reduceAdd]
    have HFV := hid (show FileV W S (.agg #[.slice A n c, .int .i64 (f.safe : Int)]) f from ⟨A, c, by rw [← Hnn.out], by rw [← Hnn.out]; exact hc, hcm, by rw [← Hnn.out]; exact hs, by rw [← Hnn.out]; exact hb64, RS.kept Hr.out (HK5.out.trans (Kept2.of_ext hE)) H.out.own H.out.ownM⟩)
    rw [e3, e4, e5]
    have HD6 := hid (HD5.out.ext hE)
    have HM6 := hid (HM5.out.ext hE)
    have HK6 := hid (HK5.out.trans (Kept2.of_ext hE))
    have HH6 := hid ((HH.out.kept HK6.out H.out.own H.out.ownM).del na)
    obtain ⟨w7, hrun, hM7, ht7⟩ := HM6.out.store nb (.agg #[.slice A n c, .int .i64 (f.safe : Int)]) rfl hnb (by have := HH6.out.length; have h2 := length_delF_le na F; have := H.out.few; omega)
    have HM7 := hid hM7; have Ht7 := hid ht7.grown
    clear e3 e4 e5 hM7 ht7 hE
    go_wp2
    go_ret
    have hk := Kept2.of_grown (d := d) Ht7.out (.inr rfl)
    refine ⟨by rw [E3.out]; rfl, H.out.after (HD6.out.of_block (Ht7.out.block d HD6.out.lt (fun e => H.out.ne (by simpa using e)))) ⟨_, HM7.out, by rw [E4.out]; exact (HH6.out.put HFV.out).kept hk H.out.own H.out.ownM⟩ (HK6.out.trans hk) ?_ (burnL_range H.out.lr), HK6.out.trans hk⟩
    rw [E4.out]
    have h1 := length_delF_there H.out.up A1.out
    have h2 := length_putF_le nb f (delF na F)
    have := H.out.few
    omega
end Go.Proofs.YtakebdeldndaaaaGreatDoor
/- The walk of disk.Crash. -/
namespace Go.Proofs.YtakebdeldndaaaaGreatDoor
open Go Go.RowKit
set_option linter.unusedSimpArgs false
set_option linter.unusedVariables false
def crashN (keep : Int) (f : File) : Nat := f.safe + min (max keep 0).toNat (f.b.length - f.safe)
def crash1 (keep : Int) (f : File) : File := ⟨f.b.take (crashN keep f), crashN keep f⟩
def crashF (keep : Int) (F : Files) : Files := F.map fun p => (p.1, crash1 keep p.2)
def crashV (keep : Int) : Value → Value
  | .agg cs => match cs.toList with
    | .slice A n _ :: .int .i64 sf :: _ => .agg #[.slice A (sf.toNat + min (max keep 0).toNat (n - sf.toNat)) (sf.toNat + min (max keep 0).toNat (n - sf.toNat)), .int .i64 ((sf.toNat + min (max keep 0).toNat (n - sf.toNat) : Nat) : Int)]
    | _ => .agg cs
  | v => v
def crashL (keep : Int) (left : Lit → Bool) (G : Raw) : Raw := G.map fun p => if left (.string p.1) then p else (p.1, crashV keep p.2)
theorem crashL_names (keep : Int) (left : Lit → Bool) (G : Raw) : (crashL keep left G).map (·.1) = G.map (·.1) := by
  unfold crashL
  rw [List.map_map]
  refine List.map_congr_left fun p _ => ?_
  simp only [Function.comp]
  split <;> rfl
theorem crashL_start (keep : Int) (G : Raw) : crashL keep (Maps.has (DataW.map (rawL G))) G = G := by
  unfold crashL
  conv => rhs; rw [← List.map_id G]
  refine List.map_congr_left fun p hp => ?_
  rw [if_pos]
  · rfl
  · rw [rawL_has]
    unfold atL
    rw [Option.isSome_map, List.find?_isSome]
    exact ⟨p, hp, by simp⟩
theorem crashL_step (keep : Int) (left : Lit → Bool) (nm : List UInt8) (v : Value) {G : Raw} (hu : Up G) (hat : atL (crashL keep left G) nm = some v) (hl : left (.string nm) = true) :
    putL nm (crashV keep v) (crashL keep left G) = crashL keep (fun z => left z && !z.sameKey (.string nm)) G ∧ atL G nm = some v := by
  have hu' : Up (crashL keep left G) := up_names hu (crashL_names keep left G).symm
  have hmem : nm ∈ (crashL keep left G).map (·.1) := by
    unfold atL at hat
    cases hf : (crashL keep left G).find? (·.1 == nm) with
    | none => rw [hf] at hat; cases hat
    | some p => exact List.mem_map.2 ⟨p, List.mem_of_find?_eq_some hf, by have := List.find?_some hf; simpa using this⟩
  have key : ∀ G : Raw, atL (crashL keep left G) nm = atL G nm := by
    intro G
    induction G with
    | nil => rfl
    | cons p G ih =>
      unfold atL crashL at ih ⊢
      rw [List.map_cons, List.find?_cons, List.find?_cons]
      by_cases e : p.1 = nm
      · rw [if_pos (by rw [e]; exact hl)]
        simp [e]
      · have h1 : ((if left (.string p.1) then p else (p.1, crashV keep p.2)).1 == nm) = false := by
          split <;> simpa using e
        rw [h1, beq_eq_false_iff_ne.2 e]
        exact ih
  have hat' := (key G).symm.trans hat
  refine ⟨?_, hat'⟩
  rw [putL_there nm _ hu' hmem]
  unfold crashL
  rw [List.map_map]
  refine List.map_congr_left fun p hp => ?_
  simp only [Function.comp, same_str]
  by_cases e : p.1 = nm
  · have hv : v = p.2 := by
      have hnd := hu.nodup
      have : ∀ (G : Raw), (G.map (·.1)).Nodup → p ∈ G → atL G nm = some v → v = p.2 := by
        intro G
        induction G with
        | nil => intro _ h; cases h
        | cons q G ih =>
          intro hn hp hat
          rw [List.map_cons, List.nodup_cons] at hn
          unfold atL at hat
          rw [List.find?_cons] at hat
          by_cases eq : q.1 = nm
          · rw [beq_iff_eq.2 eq] at hat
            have hq : v = q.2 := by simpa using hat.symm
            rcases List.mem_cons.1 hp with h | h
            · rw [h, hq]
            · exact absurd (List.mem_map.2 ⟨p, h, by rw [e, eq]⟩) hn.1
          · rw [beq_eq_false_iff_ne.2 eq] at hat
            rcases List.mem_cons.1 hp with h | h
            · exact absurd (h ▸ e) eq
            · exact ih hn.2 h hat
      exact this G hnd hp hat'
    rw [if_pos (show left (.string p.1) = true by rw [e]; exact hl)]
    simp [e, hv]
  · by_cases hlp : left (.string p.1) = true
    · simp [hlp, e]
    · simp [hlp, e]
theorem crashL_done (keep : Int) (left : Lit → Bool) (G : Raw) (h : ∀ kl, left kl = false) : crashL keep left G = G.map fun p => (p.1, crashV keep p.2) := by
  unfold crashL
  simp [h]
theorem crash_held {w : World} {S : Nat → Prop} (keep : Int) : ∀ {G : Raw} {F : Files}, Held w S G F → Held w S (G.map fun p => (p.1, crashV keep p.2)) (crashF keep F)
  | [], [], _ => trivial
  | p :: G, f :: F, ⟨h1, h2, h3⟩ => by
    refine ⟨h1, ?_, crash_held keep h3⟩
    obtain ⟨A, c, e, hc, hcm, hs, hb, hr⟩ := h2
    have hl : (f.2.b.take (crashN keep f.2)).length = crashN keep f.2 := by
      rw [List.length_take]; unfold crashN; omega
    have hle : crashN keep f.2 ≤ f.2.b.length := by unfold crashN; omega
    show FileV w S (crashV keep p.2) (crash1 keep f.2)
    rw [e]
    refine ⟨A, crashN keep f.2, ?_, by unfold crash1; simp only; rw [hl]; exact Nat.le_refl _, by omega, by unfold crash1; simp only; rw [hl]; exact Nat.le_refl _, by unfold crash1; simp only; rw [hl]; omega, ?_⟩
    · unfold crash1 crashV
      simp only [hl, Int.toNat_natCast]
      rfl
    · unfold crash1
      simp only
      rcases hr with h0 | ⟨b, o, e, kb, hv⟩
      · exact .inl (by rw [show f.2.b = [] by cases hfb : f.2.b with
          | nil => rfl
          | cons x l => rw [hfb] at h0; simp [bvs] at h0]; simp [bvs])
      · refine .inr ⟨b, o, e, kb, fun j v hj => hv j v ?_⟩
        simp only [bvs, List.getElem?_map, List.getElem?_take] at hj ⊢
        split at hj
        · exact hj
        · cases hj
theorem DiskS.relit {w : World} {d m : Nat} {q l : Int} (h : DiskS w d m q l) (x : Int) : DiskS (w.setCell ⟨d, 1, none⟩ (.int .i64 x)) d m q x := by
  refine ⟨?_, ?_, ?_, ?_⟩
  · exact (World.cell?_setCell_other (w := w) (a := ⟨d, 1, none⟩) (b := ⟨d, 0, none⟩) (v := .int .i64 x) (h := by simp)).trans h.quota
  · exact World.cell?_setCell_same (w := w) (a := ⟨d, 1, none⟩) (h := h.left) ..
  · exact (World.cell?_setCell_other (w := w) (a := ⟨d, 1, none⟩) (b := ⟨d, 2, none⟩) (v := .int .i64 x) (h := by simp)).trans h.files
  · simp only [World.frozen?_setCell]; exact h.free
theorem run_min2 (a b c : Int) (hc : c = min a b) (ts : Array TypeId) (t : TypeId) (w : World) : (Builtin.min_ ts t #[.int .i64 a, .int .i64 b]).run Tryz.prog w = .ok (.int .i64 c) w := by
  simp [Builtin.min_, Builtin.min2]
  repeat' split
  all_goals omega
theorem atL_held {w : World} {S : Nat → Prop} {G : Raw} {F : Files} (h : Held w S G F) {nm : List UInt8} {A : Option Addr} {n c : Nat} {sf : Int} (hat : atL G nm = some (.agg #[.slice A n c, .int .i64 sf])) : ∃ s : Nat, sf = (s : Int) ∧ s ≤ n ∧ n ≤ c ∧ c ≤ 9223372036854775807 ∧ n ≤ 65536 := by
  rcases h.at_ nm with ⟨e1, e2⟩ | ⟨f, v, e1, e2, A', c', rfl, hc, hcm, hs, hb, -⟩
  · rw [e2] at hat; cases hat
  · rw [e2] at hat
    simp only [Option.some.injEq, Value.agg.injEq, Array.mk.injEq, List.cons.injEq, Value.slice.injEq, Value.int.injEq, true_and, and_true] at hat
    obtain ⟨⟨rfl, rfl, rfl⟩, rfl⟩ := hat
    exact ⟨f.safe, rfl, hs, hc, hcm, hb⟩
set_option maxRecDepth 100000 in
set_option maxHeartbeats 2000000 in
theorem crash_at {w : World} {S : Nat → Prop} {d m : Nat} {q l : Int} {F : Files} (h : DiskIs w S d m q l F) (keep : Int) (hkeep : keep ≤ 9223372036854775807) :
    Calls Tryz.prog 19 #[.pointer (some ⟨d, 0, none⟩), .int .i64 keep] w fun e w' => e = .returned (.tuple #[]) ∧ DiskIs w' S d m q (-1) (crashF keep F) ∧ Kept2 d m w w' := by
  have H := hid h
  obtain ⟨G, hG, hH⟩ := h.map
  have HH := hid hH
  have hdlt := h.str.lt
  have hmlt := hG.lt
  have c1 := h.str.left
  have cf := h.str.free
  have HD1 := hid (h.str.relit (-1))
  have HM1 := hid (hG.set ⟨d, 1, none⟩ (.int .i64 (-1)) (fun e => h.ne e.symm))
  have HK1 := hid (show Kept2 d m w (w.setCell ⟨d, 1, none⟩ (.int .i64 (-1))) from ⟨rfl, rfl, rfl, by simp, fun k hk h1 _ => heap_setCell_other w ⟨d, 1, none⟩ k _ (fun e => h1 e)⟩)
  have hmax := run_max0 keep ((max keep 0).toNat : Int) (by omega)
  obtain ⟨kp, hkp⟩ : ∃ kp, kp = (max keep 0).toNat := ⟨_, rfl⟩
  have hkm : (kp : Int) ≤ 9223372036854775807 := by omega
  rw [← hkp] at hmax
  have Hkp := hid hkp
  have Hup := hid hG.up
  have c2 := HD1.out.files
  have hsz : (w.setCell ⟨d, 1, none⟩ (.int .i64 (-1))).heap.size = w.heap.size := by simp
  have Hsz := hid hsz
  clear h hG hH hkp hsz
  go_enter Tryz.func19, Tryz.ntmps19
  go_wp2_with (at_range; refine wpList_range_own _ rfl (.tmp 13) 74 rfl 9 81 keyedS Tryz.underlying74 rawE m G.length (.map (rawL G)) rfl HM1.out ?_; intro w1 hr1 hg1 hs1; go_frame)
  clear c1 cf c2
  have hE1 : Ext (w.setCell ⟨d, 1, none⟩ (.int .i64 (-1))) w1 := ⟨hg1.os, hg1.tape, hg1.output, hg1.size, fun k hk => hg1.block k hk (by simp)⟩
  have HD2 := hid (HD1.out.ext hE1)
  have HK2 := hid (HK1.out.trans (Kept2.of_ext hE1))
  rw [Hsz.out] at hr1 hs1 ⊢
  clear hg1 hE1
  go_loopw [4] (fun _ wr => ∃ (left : Lit → Bool) (cnt : Nat), wr.ranges Tryz.prog 9 rawE m w.heap.size G.length (.map (rawL (crashL keep left G))) left cnt ∧ Hid (DiskS wr d m q (-1)) ∧ Hid (Kept2 d m w wr) ∧ w.heap.size < wr.heap.size) (fun _ wr => wr.rangeLeft m w.heap.size)
  case atStart =>
    exact ⟨_, _, by rw [crashL_start]; exact hr1, HD2, HK2, by omega⟩
  case round =>
    clear hr1 HD2 HK2 hs1
    obtain ⟨left, cnt, hrg, HD, HK, hlt1⟩ := hrel
    go_wp2_with (at_next; refine wpList_next_ranges _ rfl (.tmp 14) rfl 9 keyedS rawE (fun nm : List UInt8 => .string (str nm)) mkFile invName invFile m w.heap.size G.length (.map (rawL (crashL keep left G))) left cnt rfl hrg ?_ ?_)
    · intro hc0 hl0
      have hM := MapAt.of hrg.owns
      rw [crashL_done keep left G hl0] at hM
      have HM := hid hM
      clear hM hl0 hrg
      go_wp2
      go_end0
      have h1 := crash_held keep (HH.out.kept HK.out H.out.own H.out.ownM)
      refine ⟨rfl, H.out.after HD.out ⟨_, HM.out, h1⟩ HK.out ?_ (by omega), HK.out⟩
      unfold crashF; rw [List.length_map]; exact H.out.few
    · intro nm A n c sf kl y1 y2 w2 cnt2 hkey hlk hy hat hrg2 hlt hg2 hs2 hen
      have hkl := name_lit nm kl hkey
      subst hkl
      have hy2 := (rawE_inv hy).2
      simp only [Prod.mk.injEq] at hy2
      obtain ⟨rfl, rfl⟩ := hy2
      have hat1 : atL (crashL keep left G) nm = some (mkFile (A, n, c, sf)) := by
        have a1 := hat (.held zfile)
        have a2 := hat .nil
        rw [rawL_at] at a1
        simp only [DataW.held.injEq] at a1
        cases hq : atL (crashL keep left G) nm with
        | none =>
          exfalso
          have hf : ((crashL keep left G).find? (·.1 == nm)) = none := by unfold atL at hq; simpa using hq
          unfold DataW.atKey at a2
          simp only at a2
          rw [rawL_find, hf] at a2
          cases a2
        | some v => rw [hq] at a1; exact congrArg some a1
      obtain ⟨hput, hatG⟩ := crashL_step keep left nm _ Hup.out hat1 hlk
      obtain ⟨s, rfl, hsn, hnc, hcm, hn64⟩ := atL_held (A := A) (n := n) (c := c) (sf := sf) HH.out hatG
      have hmk : mkFile (A, n, c, (s : Int)) = .agg #[.slice A n c, .int .i64 (s : Int)] := rfl
      rw [hmk] at hen hput ⊢
      obtain ⟨mn, hmn⟩ : ∃ mn, mn = min kp (n - s) := ⟨_, rfl⟩
      obtain ⟨k, hk⟩ : ∃ k, k = s + mn := ⟨_, rfl⟩
      have hcv : crashV keep (.agg #[.slice A n c, .int .i64 (s : Int)]) = .agg #[.slice A k k, .int .i64 (k : Int)] := by
        unfold crashV
        simp only [Int.toNat_natCast]
        rw [hk, hmn, Hkp.out]
      rw [hcv] at hput
      have Hput := hid hput
      have hin : Maps.has (DataW.map (rawL (crashL keep left G))) (.string nm) = true := by rw [rawL_has, hat1]; rfl
      have Hin := hid hin
      have Hkey := hid hkey
      have hmin := run_min2 (kp : Int) ((n : Int) - (s : Int)) (mn : Int) (by omega)
      have hkk := hid (show (s : Int) + (mn : Int) = (k : Int) by omega)
      have hkn : k ≤ n := by omega
      have hk64 : (k : Int) ≤ (c : Int) := by omega
      have HD2 := hid (HD.out.of_block (hg2.block d HD.out.lt (fun e => by simp at e; omega)))
      have HK2 : Hid (Kept2 d m w w2) := ⟨hg2.os.trans HK.out.os, hg2.tape.trans HK.out.tape, hg2.output.trans HK.out.output, Nat.le_trans HK.out.size hg2.size, fun i hi h1 h2 => (hg2.block i (by omega) (fun e => by simp at e; omega)).trans (HK.out.block i hi h1 h2)⟩
      have hmnn : (mn : Int) ≤ (n : Int) - (s : Int) := by omega
      have hdc := HD2.out.files
      have Hlk := hid hlk
      have Hlt := hid hlt
      have Hs2 := hid hs2
      have Hleq := hid hrg.left_eq
      have Hrg2 := hid hrg2
      clear hput hin hkey hat hat1 hatG hcv hk hmn hy hmk hlk hlt hg2 hs2 hrg hrg2
      go_wp2_with fail
      rw [hkk.out]
      have Hf0 := hid (show (w2.alloc (.cells #[.slice A n c, .int .i64 (s : Int)] 81)).cell? ⟨w2.heap.size, 0, none⟩ = some (.slice A n c) by rw [cell_of_row _ _ _ _ _ _ (heap_alloc_last w2 _)]; rfl)
      have HE2 := hid (show Ext w2 (w2.alloc (.cells #[.slice A n c, .int .i64 (s : Int)] 81)) from (Below.refl _ _).alloc (Nat.le_refl _) _)
      clear hen hdc hmin hmax
      apply wp_drawn_last 12 [isV _, isV _, isV _, isV _, isV _, isV _, isV _, isV _, isV _, isV _, isV _, isV _] (by decide) (by kernel_rfl)
      · kernel_rfl
      · kernel_rfl
      · refine ⟨?r5s0, ?r5s1, ?r5s2, ?r5s3, ?r5s4, ?r5s5, ?r5s6, ?r5s7, ?r5s8, ?r5s9, ?r5s10, ?r5s11, trivial⟩
        case r5s0 | r5s1 | r5s2 =>
          intro v W hE hd; simp only [Region.wanted, ↓reduceIte]; (try simp [deps, waitsOn, Region.binds, knowing, isV, ownsV, anyV] at hd); simp only [putAll, List.take_succ_cons, List.take_zero, List.drop_succ_cons, List.drop_zero, Act.put, List.setIfInBounds_toArray, List.set_cons_zero, List.set_cons_succ, Nat.zero_add, Nat.reduceAdd]; go_simp; exact ⟨Below.refl _ _, rfl⟩
        case r5s3 =>
          intro v W hE hd; simp only [Region.wanted, ↓reduceIte]; (try simp [deps, waitsOn, Region.binds, knowing, isV, ownsV, anyV] at hd); simp only [putAll, List.take_succ_cons, List.take_zero, List.drop_succ_cons, List.drop_zero, Act.put, List.setIfInBounds_toArray, List.set_cons_zero, List.set_cons_succ, Nat.zero_add, Nat.reduceAdd]
          have e1 := cell_below (Ext.trans' HE2.out hE) HD2.out.files
          go_simp
          exact ⟨Below.refl _ _, rfl⟩
        case r5s4 | r5s5 =>
          intro v W hE hd; simp only [Region.wanted, ↓reduceIte]; (try simp [deps, waitsOn, Region.binds, knowing, isV, ownsV, anyV] at hd); simp only [putAll, List.take_succ_cons, List.take_zero, List.drop_succ_cons, List.drop_zero, Act.put, List.setIfInBounds_toArray, List.set_cons_zero, List.set_cons_succ, Nat.zero_add, Nat.reduceAdd]; go_simp; exact ⟨Below.refl _ _, rfl⟩
        case r5s6 =>
          intro v W hE hd; simp only [Region.wanted, ↓reduceIte]; (try simp [deps, waitsOn, Region.binds, knowing, isV, ownsV, anyV] at hd); simp only [putAll, List.take_succ_cons, List.take_zero, List.drop_succ_cons, List.drop_zero, Act.put, List.setIfInBounds_toArray, List.set_cons_zero, List.set_cons_succ, Nat.zero_add, Nat.reduceAdd]
          have e1 := cell_below hE Hf0.out
          go_simp
          exact ⟨Below.refl _ _, rfl⟩
        case r5s7 | r5s8 | r5s9 | r5s10 | r5s11 =>
          intro v W hE hd; simp only [Region.wanted, ↓reduceIte]; (try simp [deps, waitsOn, Region.binds, knowing, isV, ownsV, anyV] at hd); simp only [putAll, List.take_succ_cons, List.take_zero, List.drop_succ_cons, List.drop_zero, Act.put, List.setIfInBounds_toArray, List.set_cons_zero, List.set_cons_succ, Nat.zero_add, Nat.reduceAdd]; go_simp; exact ⟨Below.refl _ _, rfl⟩
      · rintro v W hE ⟨-, -, -, e3, e4, -, -, -, -, -, -, e11, -⟩
        have e3 := (show v 3 = _ from e3)
        have e4 := (show v 4 = _ from e4)
        have e11 := (show v 11 = _ from e11)
        simp only [putAll, List.take_succ_cons, List.take_zero, List.drop_succ_cons, List.drop_zero, Act.put, List.setIfInBounds_toArray, List.set_cons_zero, List.set_cons_succ, Nat.zero_add, Nat.reduceAdd]
        rw [e3, e4, e11]
        have hrgW := Hrg2.out.kept (w' := W) (row := none) ⟨hE.os, hE.tape, hE.output, Nat.le_trans HE2.out.size hE.size, fun i hi _ => (hE.block i (Nat.lt_of_lt_of_le hi HE2.out.size)).trans (HE2.out.block i hi)⟩ (by simp) (by simp)
        obtain ⟨w7, hrun, hrg7, ht7⟩ := ranges_store hrgW keyedS Tryz.underlying74 Hkey.out (rawE_mk (v := .agg #[.slice A k k, .int .i64 (k : Int)]) rfl) Hin.out
        rw [rawL_put, Hput.out] at hrg7
        have Hrg7 := hid hrg7
        have Ht7 := hid ht7.grown
        have hEW := hid (Ext.trans' HE2.out hE)
        clear hrgW hrg7 ht7 e3 e4 e11 hE
        go_wp2_with fail
        go_roundw
        case rel =>
          refine ⟨_, cnt2, Hrg7.out, ?_, ?_, ?_⟩
          · exact (HD2.out.ext hEW.out).of_block (Ht7.out.block d (HD2.out.ext hEW.out).lt (fun e => H.out.ne (by simpa using e)))
          · exact HK2.out.trans ((Kept2.of_ext hEW.out).trans (Kept2.of_grown Ht7.out (.inr rfl)))
          · have := hEW.out.size; have := Ht7.out.size; have := Hs2.out; omega
        case measure =>
          rw [Hrg7.out.left_eq, Hleq.out]
          exact Hlt.out
end Go.Proofs.YtakebdeldndaaaaGreatDoor
/- The walk of chapter 8's shown; lists of one file. -/
namespace Go.Proofs.YtakebdeldndaaaaGreatDoor
open Go Go.RowKit
set_option linter.unusedSimpArgs false
set_option linter.unusedVariables false
theorem putF_nil (nm : List UInt8) (g : File) : putF nm g [] = [(nm, g)] := by simp [putF, delF, insF]
theorem app_none {q : Int} {nm : List UInt8} {bs : List UInt8} (hm : mayB nm = true) (h1 : bs.length ≤ 65536) (h2 : (bs.length : Int) ≤ q) :
    appE q (-1) [] nm bs = 0 ∧ appF q (-1) [] nm bs = [(nm, ⟨bs, 0⟩)] := by
  have e : appE q (-1) [] nm bs = 0 := by
    unfold appE oldF atF
    simp only [List.find?_nil, Option.map_none, Option.getD_none, List.length_nil]
    rw [if_neg (by decide), if_neg (by rw [hm]; decide), if_neg (by omega), if_neg (by simp [usedF]; omega)]
  refine ⟨e, ?_⟩
  unfold appF oldF atF
  rw [if_pos e, putF_nil]; rfl
theorem burn_none : burnL (-1) = -1 := by decide
section
variable {w0 w w' : World} {S : Nat → Prop} {d m : Nat} {q l l' : Int} {F F' : Files}
end
end Go.Proofs.YtakebdeldndaaaaGreatDoor
