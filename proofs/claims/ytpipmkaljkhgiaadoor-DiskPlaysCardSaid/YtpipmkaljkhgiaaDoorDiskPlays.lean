/- The walk of DiskPlays. -/
import Derived.Test.YtpipmkaljkhgiaaDoorDiskSafe
import Derived.Test.YtpipmkaljkhgiaaDoorTexts
import Derived.Deep.DeepCutAuto
namespace Go.Proofs.YtpipmkaljkhgiaaDoor
open Go Go.RowKit
set_option linter.unusedSimpArgs false
set_option linter.unusedVariables false

set_option maxRecDepth 100000 in
/-- A map's keys are no longer than strings are. -/
theorem MapAt.short {w : World} {m : Nat} {G : Raw} (h : MapAt w m G) : ∀ p ∈ G, p.1.length ≤ 9223372036854775807 := by
  intro p hp
  obtain ⟨es, clock, -, F, -, h4⟩ := h
  have h4' : rawL G = (es.toList.map (WideElems.rg Tryd.prog 9 rawE)).foldr DataW.insert [] := by
    have := congrArg (fun d : DataW Value => match d with | .map l => l | _ => []) h4
    exact this
  have hm : ((Lit.string p.1, DataW.held p.2) : Lit × DataW Value) ∈ rawL G := List.mem_map.2 ⟨p, hp, rfl⟩
  rw [h4'] at hm
  obtain ⟨x, hx, e⟩ := List.mem_map.1 ((WideShapes.sorted_perm _).mem_iff.1 hm)
  obtain ⟨y, hy⟩ := F.reads x hx
  rw [WideElems.rg_of hy] at e
  have hk := WideElems.rd_key hy
  rw [e] at hk
  unfold keyOf mapKey at hk
  rw [Tryd.underlying9] at hk
  simp only at hk
  split at hk <;> simp at hk
  obtain ⟨h1, h2⟩ := hk
  rw [← h2]
  simp only [maxLen] at h1
  simpa using h1
theorem DiskIs.short {w : World} {S : Nat → Prop} {d m : Nat} {q l : Int} {F : Files} (h : DiskIs w S d m q l F) : ∀ p ∈ F, p.1.length ≤ 9223372036854775807 := by
  intro p hp
  obtain ⟨G, hG, hH⟩ := h.map
  have : p.1 ∈ G.map (·.1) := by rw [hH.names]; exact List.mem_map_of_mem hp
  obtain ⟨q, hq, e⟩ := List.mem_map.1 this
  rw [← e]
  exact hG.short q hq
/-- Both disks hold the same. -/
def PlayInv (wb : World) (y : Nat) (q : Int) (d : Nat) (w : World) : Prop :=
  ∃ S m g l F, Two w S d m y g q l F q l F ∧ (wb.heap.size ≤ d ∧ wb.heap.size ≤ m ∧ wb.heap.size ≤ y ∧ wb.heap.size ≤ g) ∧ Below wb.heap.size wb w ∧ ∀ j, S j → wb.heap.size ≤ j
theorem PlayInv.next {wb w w' : World} {S : Nat → Prop} {d m y g : Nat} {q l : Int} {F : Files} (hb : (wb.heap.size ≤ d ∧ wb.heap.size ≤ m ∧ wb.heap.size ≤ y ∧ wb.heap.size ≤ g)) (hB : Below wb.heap.size wb w) (ho : ∀ j, S j → wb.heap.size ≤ j)
    (hA : After w S d m y g q l F q l F w') : PlayInv wb y q d w' := by
  obtain ⟨S', g', hT, hS, hg⟩ := hA
  have hsz := hB.size
  refine ⟨S', m, g', l, F, hT, ⟨hb.1, hb.2.1, hb.2.2.1, by omega⟩, ⟨hS.os.trans hB.os, hS.tape.trans hB.tape, hS.output.trans hB.output, Nat.le_trans hB.size hS.size, fun k hk => (hS.block k (by omega) (by omega) (by omega) (by omega) (by omega)).trans (hB.block k hk)⟩, fun j hj => ?_⟩
  by_cases h : j < w.heap.size
  · exact ho j ((hS.same j h).1 hj)
  · omega
theorem PlayInv.ext {wb w w' : World} {y d : Nat} {q : Int} (h : PlayInv wb y q d w) (hE : Ext w w') : PlayInv wb y q d w' := by
  obtain ⟨S, m, g, l, F, hT, hb, hB, ho⟩ := h
  exact ⟨S, m, g, l, F, hT.ext hE, hb, below_then hB hB.size hE, ho⟩
/-- Behind the making of the reference's disk. -/
theorem PlayInv.start {wb w w' : World} {S : Nat → Prop} {d m : Nat} {q : Int} (h : Run wb w S d m q (-1) []) (hE : Ext w w') (hR : RefIs w' (fun k => S k ∨ k = w.heap.size) w.heap.size w.heap.size q (-1) []) : PlayInv wb w.heap.size q d w' := by
  have hsz := h.below.size
  have hlt := h.is.lt
  obtain ⟨G, hG, hH⟩ := h.is.map
  have same : ∀ k, k < w.heap.size → ((S k ∨ k = w.heap.size) ↔ S k) := fun k hk => ⟨fun h => by rcases h with h | h; exact h; omega, .inl⟩
  have hD : DiskIs w' (fun k => S k ∨ k = w.heap.size) d m q (-1) [] :=
    ⟨h.is.str.ext hE, ⟨G, hG.ext hE, (hH.more same).kept (Kept2.of_ext (d := d) (m := m) hE) (.inl h.is.own) (.inl h.is.ownM)⟩, h.is.ne, .inl h.is.own, .inl h.is.ownM, hR.fresh, h.is.few, h.is.lr⟩
  exact ⟨_, m, w.heap.size, -1, [], ⟨hD, hR, by omega, by omega, by omega, by omega⟩, ⟨h.dl, h.ml, hsz, hsz⟩, below_then h.below h.below.size hE, fun j hj => by rcases hj with hj | hj; exact h.old j hj; omega⟩
/-- A copy takes the disk's place. -/
theorem Two.cloned {w w' : World} {S : Nat → Prop} {d m d' m' y g : Nat} {q1 l1 q2 l2 : Int} {F1 F2 : Files} (h : Two w S d m y g q1 l1 F1 q2 l2 F2) (hD : DiskIs w' (fun k => S k ∨ k = d' ∨ k = m') d' m' q1 l1 F1) (hE : Ext w w') (h1 : w.heap.size ≤ d') (h2 : w.heap.size ≤ m') :
    Two w' (fun k => S k ∨ k = d' ∨ k = m') d' m' y g q1 l1 F1 q2 l2 F2 := by
  have hy := h.ref.lt
  have hg := h.ref.glt
  exact ⟨hD, h.ref.kept (S' := fun k => S k ∨ k = d' ∨ k = m') (d := d) (m := m) (Kept2.of_ext hE) (fun k hk => ⟨fun h => by rcases h with h | h | h; exact h; omega; omega, .inl⟩) hD.fresh h.disk.own h.disk.ownM (fun e => h.apart.dy e.symm) (fun e => h.apart.my e.symm) (fun e => h.apart.dg e.symm) (fun e => h.apart.mg e.symm),
    by omega, by omega, by omega, by omega⟩
/-- Another disk goes its own way. -/
theorem Two.aside {w w' : World} {S : Nat → Prop} {d m d' m' y g : Nat} {q1 l1 q2 l2 : Int} {F1 F2 : Files} (h : Two w S d' m' y g q1 l1 F1 q2 l2 F2) (hk : Kept2 d m w w') (hd : S d) (hm : S m) (a : d' ≠ d ∧ d' ≠ m ∧ m' ≠ d ∧ m' ≠ m) (b : y ≠ d ∧ y ≠ m ∧ g ≠ d ∧ g ≠ m) :
    Two w' S d' m' y g q1 l1 F1 q2 l2 F2 :=
  ⟨h.disk.kept hk hd hm a.1 a.2.1 a.2.2.1 a.2.2.2, h.ref.kept hk (fun _ _ => Iff.rfl) (fun k hk' => h.disk.fresh k (Nat.le_trans hk.size hk')) hd hm b.1 b.2.1 b.2.2.1 b.2.2.2, h.apart⟩
set_option maxRecDepth 100000 in
set_option maxHeartbeats 4000000 in
theorem diskPlays_in (quota : Int) (A : Option Addr) (n c : Nat) (os : List OpV) (fuse : Int) (w : World) (hq : -9223372036854775808 ≤ quota ∧ quota ≤ 9223372036854775807) (hos : SlR ROp w (· < w.heap.size) A n c os) (hf : -9223372036854775808 ≤ fuse ∧ fuse ≤ 9223372036854775807) :
    Calls Tryd.prog 8 #[.int .i64 quota, .slice A n c, .int .i64 fuse] w fun e w' => e = .returned (.bool true) ∧ Ext w w' := by
  have hstr : (⟨#[97]⟩ : ByteArray) = str nA := rfl
  have kc := fun (w : World) (C : Array Value) (n c : Nat) => Lib.run_convert_bytes_const (P := Tryd.prog) w 22 5 C n c Tryd.underlying22 Tryd.underlying5
  have HOS := hid hos
  have Hq := hid hq
  have Hf := hid hf
  clear hos hq hf
  go_enter Tryd.func8, Tryd.ntmps8
  go_wp2_with fail
  refine (shown_at _).mono ?_
  rintro e w1 ⟨rfl, hE⟩
  have HE1 := hid hE; clear hE
  go_wp2_with fail
  refine (kind_at quota 1000 w1 Hq.out (by omega)).mono ?_
  rintro e w' ⟨rfl, rfl⟩
  have hqk : 0 ≤ kindN quota 1000 ∧ kindN quota 1000 < 1000 := by unfold kindN; split <;> omega
  obtain ⟨q, hq⟩ : ∃ q, q = kindN quota 1000 := ⟨_, rfl⟩
  rw [← hq] at hqk ⊢
  have Hqe := hid hq
  clear hq
  go_wp2_with fail
  refine (run_new HE1.out q).mono ?_
  rintro e w2 ⟨d, m, rfl, hR⟩
  rw [show max q 0 = q by omega] at hR
  have HR := hid hR; clear hR
  go_wp2_with fail
  refine (kind_at quota 1000 w2 Hq.out (by omega)).mono ?_
  rintro e w' ⟨rfl, rfl⟩
  rw [← Hqe.out]
  go_wp2_with fail
  refine (refNew_at q w2 _ HR.out.is.fresh).mono ?_
  rintro e w3 ⟨rfl, hRf, hE⟩
  rw [show max q 0 = q by omega] at hRf
  have HI3 := hid (PlayInv.start HR.out hE hRf)
  obtain ⟨yy, hyy⟩ : ∃ yy, yy = w2.heap.size := ⟨_, rfl⟩
  rw [← hyy] at HI3 ⊢
  clear hRf hE HR hyy HE1
  go_upto_if 34 with (fail)
  go_cut [8] (fun s wx => s = .pointer (some ⟨d, 0, none⟩) ∧ Hid (PlayInv w yy q d wx))
  case first =>
    by_cases hfu : fuse = -1
    · go_wp2_with fail
      go_meet
      case rel => exact ⟨rfl, HI3⟩
    · obtain ⟨S, m3, g, l, F, hT, hb4, hB, ho⟩ := HI3.out
      have HT := hid hT; have HB := hid hB; have Hb4 := hid hb4; have Ho := hid ho
      clear hT hB hb4 ho
      go_wp2_with fail
      refine (fuse_at HT.out.disk Hf.out.2).mono ?_
      rintro e w4 ⟨rfl, hD, hK⟩
      have HM := hid (show Mid w3 S d m3 yy g q (max fuse 0) F q l F w4 from ⟨HT.out.fst hD hK, hK⟩)
      clear hD hK
      go_wp2_with fail
      refine (fuse_ref HM.out.1.ref fuse Hf.out.2).mono ?_
      rintro e w5 ⟨rfl, S', g', hR, hS, hg⟩
      have HN := hid (PlayInv.next Hb4.out HB.out Ho.out (After.mk HM.out HT.out.disk.fresh hR hS hg))
      clear hR hS hg
      go_wp2_with fail
      go_meet
      case rel => exact ⟨rfl, HN⟩
  case rest =>
  obtain ⟨rfl, HI4⟩ := hcut
  clear HI3
  go_wp2_with fail
  go_loopw [10, 8] (fun i dv wr => ∃ (k dd : Nat), k ≤ n ∧ k ≤ 70 ∧ i = .int .i64 (k : Int) ∧ dv = .pointer (some ⟨dd, 0, none⟩) ∧ Hid (PlayInv w yy q dd wr)) (fun i _ _ => 70 - (intOf i).toNat)
  case atStart => exact ⟨0, d, by omega, by omega, rfl, rfl, HI4⟩
  case round =>
    obtain ⟨k, dd, hkn, hk70, rfl, rfl, HI⟩ := hrel
    by_cases hlt : k < n ∧ k < 70
    · obtain ⟨hlt1, hlt2⟩ := hlt
      have hk1 : (k : Int) < (n : Int) := by omega
      have hk2 : (k : Int) < 70 := by omega
      have hk00 : ¬ ((k : Int) < 0) := by omega
      have hk0 : (0 : Int) ≤ (k : Int) := by omega
      go_upto_if 53 with (fail)
      go_cut [8] (fun s wx => ∃ d', s = .pointer (some ⟨d', 0, none⟩) ∧ Hid (PlayInv w yy q d' wx))
      case first =>
        by_cases h10 : (k : Int) % 11 = 10
        · obtain ⟨S, m3, g, l, F, hT, hb4, hB, ho⟩ := HI.out
          have HT := hid hT; have HB := hid hB; have Hb4 := hid hb4; have Ho := hid ho
          clear hT hB hb4 ho
          have htm : (k : Int).tmod 11 = 10 := by rw [Int.tmod_eq_emod_of_nonneg (by omega)]; exact h10
          go_wp2_with fail
          clear h10 htm
          refine (clone_at HT.out.disk).mono ?_
          rintro e w5 ⟨d', m', rfl, h1, h2, hD', hD, hE⟩
          have HT5 := hid (HT.out.cloned hD' hE h1 h2)
          have hlt := HT.out.disk.lt
          have hy := HT.out.ref.lt
          have hg := HT.out.ref.glt
          have ha := HT.out.apart
          have Hne := hid (show (d' ≠ dd ∧ d' ≠ m3 ∧ m' ≠ dd ∧ m' ≠ m3) ∧ (yy ≠ dd ∧ yy ≠ m3 ∧ g ≠ dd ∧ g ≠ m3) from
            ⟨by omega, fun e => ha.dy e.symm, fun e => ha.my e.symm, fun e => ha.dg e.symm, fun e => ha.mg e.symm⟩)
          have hws := HB.out.size
          have Hb5 := hid (show w.heap.size ≤ d' ∧ w.heap.size ≤ m' ∧ w.heap.size ≤ yy ∧ w.heap.size ≤ g from ⟨by omega, by omega, Hb4.out.2.2.1, Hb4.out.2.2.2⟩)
          have HR5 := hid (show Run w w5 (fun k => S k ∨ k = d' ∨ k = m') dd m3 q l F from ⟨hD, below_then HB.out HB.out.size hE, Hb4.out.1, Hb4.out.2.1, fun j hj => by
            rcases hj with hj | rfl | rfl
            · exact Ho.out j hj
            · omega
            · omega⟩)
          clear hlt hy hg ha hws hD hD' hE h1 h2 HT HB Hb4 Ho
          go_wp2_with fail
          refine ((HR5.out.ext ((Below.refl _ _).alloc (Nat.le_refl _) _)).append nA (by decide) _ 2 2 [122, 122] rfl (by omega) (rs_boxf HR5.out.is.fresh _ _ _ (by rfl))).mono ?_
          rintro e w6 ⟨rfl, hR, hK⟩
          have HT6 := hid ((HT5.out.ext ((Below.refl _ _).alloc (Nat.le_refl _) _)).aside hK HR5.out.is.own HR5.out.is.ownM Hne.out.1 Hne.out.2)
          have HR6 := hid hR
          clear hR hK
          go_wp2_with fail
          refine (HR6.out.crash 0 (by decide)).mono ?_
          rintro e w7 ⟨rfl, hR, hK⟩
          have HT7 := hid (HT6.out.aside hK HR6.out.is.own HR6.out.is.ownM Hne.out.1 Hne.out.2)
          have HN := hid (show PlayInv w yy q d' w7 from ⟨_, m', g, l, F, HT7.out, Hb5.out, hR.below, hR.old⟩)
          clear hR hK
          go_wp2_with fail
          go_meet
          case rel => exact ⟨d', rfl, HN⟩
        · have htm : ¬ ((k : Int).tmod 11 = 10) := by rw [Int.tmod_eq_emod_of_nonneg (by omega)]; exact h10
          go_wp2_with fail
          go_meet
          case rel => exact ⟨dd, rfl, HI⟩
      case rest =>
      obtain ⟨d', rfl, HI5⟩ := hcut
      clear HI
      obtain ⟨S, m3, g, l, F, hT, hb4, hB, ho⟩ := HI5.out
      have HT := hid hT; have HB := hid hB; have Hb4 := hid hb4; have Ho := hid ho
      clear hT hB hb4 ho
      obtain ⟨b, o, Ak, ck, ov, rfl, hbl, hget, a0, a1, a2, a3, a4, hck, hrb, hok⟩ := ops_at HOS.out k hlt1
      have HA0 := hid a0; have HA1 := hid a1; have HA2 := hid a2; have HA3 := hid a3; have HA4 := hid a4
      have hE2 : ∀ j u, w.cell? ⟨b, j, none⟩ = some u → wc.cell? ⟨b, j, none⟩ = some u := fun j u h => (World.cell?_of_block (a := ⟨b, j, none⟩) (HB.out.block b hbl)).trans h
      have a0' := hE2 _ _ a0
      have a1' := hE2 _ _ a1
      have a2' := hE2 _ _ a2
      have a3' := hE2 _ _ a3
      have a4' := hE2 _ _ a4
      have hRS := hid (rs_old (S := S) hrb HB.out Ho.out)
      clear a0 a1 a2 a3 a4 hE2 hrb hget
      obtain ⟨kd, n1, nm, tw, bs⟩ := ov
      have Hok := hid hok
      clear hok
      simp only at a0' a1' a2' a3' a4' hck hRS HA0 HA1 HA2 HA3 HA4
      obtain ⟨lb, hlb⟩ : ∃ lb, lb = bs.length := ⟨_, rfl⟩
      rw [← hlb] at a4' hck
      have Hlb := hid hlb
      clear hlb
      go_wp2_with fail
      clear a0' a1' a2' a3' a4'
      refine (does_at HT.out kd n1 nm tw Ak lb ck bs Hok.out.kd Hok.out.n.2 Hok.out.nm Hok.out.to Hlb.out hck hRS.out).mono ?_
      rintro e w7 ⟨rfl, hA⟩
      rw [decide_eq_true (show doE (kindN kd 9) q l F n1 nm tw bs = doE (kindN kd 9) q l F n1 nm tw bs from rfl)]
      have HN := hid (PlayInv.next Hb4.out HB.out Ho.out hA)
      obtain ⟨-, -, -, -, -, -, -, hB7, -⟩ := HN.out
      have Hn := hid (show w7.cell? ⟨b, o + k * 5 + 2, none⟩ = some (.string (str nm)) from (World.cell?_of_block (a := ⟨b, o + k * 5 + 2, none⟩) (hB7.block b hbl)).trans HA2.out)
      have hnml := Hok.out.nm
      clear hA hB7 HI5 HT HB Hb4 Ho hRS
      obtain ⟨bm, hbm⟩ : ∃ bm, bm = mayB nm := ⟨_, rfl⟩
      have hc1 := fun w => may_at nm w
      have hc2 := fun w => refMay_at nm w hnml
      simp only [← hbm] at hc1 hc2
      have HC1 := hid hc1; have HC2 := hid hc2
      clear hc1 hc2 hbm
      go_wp2_with fail
      apply wp_drawn [isV _, isV _, isV _, isV _, isV _, isV _, isV _, isV _, isV _, isV _, isV _, isV _, isV _, isV _, isV _, isV (.bool false), isV _] (by kernel_rfl)
      · kernel_rfl
      · refine ⟨?r20s0, ?r20s1, ?r20s2, ?r20s3, ?r20s4, ?r20s5, ?r20s6, ?r20s7, ?r20s8, ?r20s9, ?r20s10, ?r20s11, ?r20s12, ?r20s13, ?r20s14, ?r20s15, ?r20s16, trivial⟩
        case r20s0 =>
          intro v W hE hd; simp only [Region.wanted, ↓reduceIte]; (try simp [deps, waitsOn, Region.binds, knowing, isV, ownsV, anyV] at hd); simp only [putAll, List.take_succ_cons, List.take_zero, List.drop_succ_cons, List.drop_zero, Act.put, List.setIfInBounds_toArray, List.set_cons_zero, List.set_cons_succ, Nat.zero_add, Nat.reduceAdd]; go_simp; exact ⟨Below.refl _ _, rfl⟩
        case r20s1 =>
          intro v W hE hd; simp only [Region.wanted, ↓reduceIte]; (try simp [deps, waitsOn, Region.binds, knowing, isV, ownsV, anyV] at hd); simp only [putAll, List.take_succ_cons, List.take_zero, List.drop_succ_cons, List.drop_zero, Act.put, List.setIfInBounds_toArray, List.set_cons_zero, List.set_cons_succ, Nat.zero_add, Nat.reduceAdd]; go_simp; exact ⟨Below.refl _ _, rfl⟩
        case r20s2 =>
          intro v W hE hd; simp only [Region.wanted, ↓reduceIte]; (try simp [deps, waitsOn, Region.binds, knowing, isV, ownsV, anyV] at hd); simp only [putAll, List.take_succ_cons, List.take_zero, List.drop_succ_cons, List.drop_zero, Act.put, List.setIfInBounds_toArray, List.set_cons_zero, List.set_cons_succ, Nat.zero_add, Nat.reduceAdd]; go_simp; exact ⟨Below.refl _ _, rfl⟩
        case r20s3 =>
          intro v W hE hd; (try simp [deps, waitsOn, Region.binds, knowing, isV, ownsV, anyV] at hd); simp only [putAll, List.take_succ_cons, List.take_zero, List.drop_succ_cons, List.drop_zero, Act.put, List.setIfInBounds_toArray, List.set_cons_zero, List.set_cons_succ, Nat.zero_add, Nat.reduceAdd]; rw [if_pos (by simp [Region.wanted, yielded, hd])]; go_simp; exact ⟨Below.refl _ _, rfl⟩
        case r20s4 =>
          intro v W hE hd; (try simp [deps, waitsOn, Region.binds, knowing, isV, ownsV, anyV] at hd); simp only [putAll, List.take_succ_cons, List.take_zero, List.drop_succ_cons, List.drop_zero, Act.put, List.setIfInBounds_toArray, List.set_cons_zero, List.set_cons_succ, Nat.zero_add, Nat.reduceAdd]; rw [if_pos (by simp [Region.wanted, yielded, hd])]; go_simp; exact ⟨Below.refl _ _, rfl⟩
        case r20s5 =>
          intro v W hE hd; (try simp [deps, waitsOn, Region.binds, knowing, isV, ownsV, anyV] at hd); simp only [putAll, List.take_succ_cons, List.take_zero, List.drop_succ_cons, List.drop_zero, Act.put, List.setIfInBounds_toArray, List.set_cons_zero, List.set_cons_succ, Nat.zero_add, Nat.reduceAdd]; rw [if_pos (by simp [Region.wanted, yielded, hd])]; go_simp; exact ⟨Below.refl _ _, rfl⟩
        case r20s6 =>
          intro v W hE hd; (try simp [deps, waitsOn, Region.binds, knowing, isV, ownsV, anyV] at hd); simp only [putAll, List.take_succ_cons, List.take_zero, List.drop_succ_cons, List.drop_zero, Act.put, List.setIfInBounds_toArray, List.set_cons_zero, List.set_cons_succ, Nat.zero_add, Nat.reduceAdd]; rw [if_pos (by simp [Region.wanted, yielded, hd])]; go_simp; exact ⟨Below.refl _ _, rfl⟩
        case r20s7 =>
          intro v W hE hd; (try simp [deps, waitsOn, Region.binds, knowing, isV, ownsV, anyV] at hd); simp only [putAll, List.take_succ_cons, List.take_zero, List.drop_succ_cons, List.drop_zero, Act.put, List.setIfInBounds_toArray, List.set_cons_zero, List.set_cons_succ, Nat.zero_add, Nat.reduceAdd]; rw [if_pos (by simp [Region.wanted, yielded, hd])]
          have e1 := cell_below hE Hn.out
          go_simp
          exact ⟨Below.refl _ _, rfl⟩
        case r20s8 =>
          intro v W hE hd; (try simp [deps, waitsOn, Region.binds, knowing, isV, ownsV, anyV] at hd); simp only [putAll, List.take_succ_cons, List.take_zero, List.drop_succ_cons, List.drop_zero, Act.put, List.setIfInBounds_toArray, List.set_cons_zero, List.set_cons_succ, Nat.zero_add, Nat.reduceAdd]; rw [if_pos (by simp [Region.wanted, yielded, hd])]
          go_simp
          refine (HC1.out _).mono ?_
          rintro e w' ⟨rfl, hB⟩
          have HBm := hid hB
          clear hB
          go_simp
          exact ⟨HBm.out, rfl⟩
        case r20s9 =>
          intro v W hE hd; (try simp [deps, waitsOn, Region.binds, knowing, isV, ownsV, anyV] at hd); simp only [putAll, List.take_succ_cons, List.take_zero, List.drop_succ_cons, List.drop_zero, Act.put, List.setIfInBounds_toArray, List.set_cons_zero, List.set_cons_succ, Nat.zero_add, Nat.reduceAdd]; rw [if_pos (by simp [Region.wanted, yielded, hd])]; go_simp; exact ⟨Below.refl _ _, rfl⟩
        case r20s10 =>
          intro v W hE hd; (try simp [deps, waitsOn, Region.binds, knowing, isV, ownsV, anyV] at hd); simp only [putAll, List.take_succ_cons, List.take_zero, List.drop_succ_cons, List.drop_zero, Act.put, List.setIfInBounds_toArray, List.set_cons_zero, List.set_cons_succ, Nat.zero_add, Nat.reduceAdd]; rw [if_pos (by simp [Region.wanted, yielded, hd])]; go_simp; exact ⟨Below.refl _ _, rfl⟩
        case r20s11 =>
          intro v W hE hd; (try simp [deps, waitsOn, Region.binds, knowing, isV, ownsV, anyV] at hd); simp only [putAll, List.take_succ_cons, List.take_zero, List.drop_succ_cons, List.drop_zero, Act.put, List.setIfInBounds_toArray, List.set_cons_zero, List.set_cons_succ, Nat.zero_add, Nat.reduceAdd]; rw [if_pos (by simp [Region.wanted, yielded, hd])]; go_simp; exact ⟨Below.refl _ _, rfl⟩
        case r20s12 =>
          intro v W hE hd; (try simp [deps, waitsOn, Region.binds, knowing, isV, ownsV, anyV] at hd); simp only [putAll, List.take_succ_cons, List.take_zero, List.drop_succ_cons, List.drop_zero, Act.put, List.setIfInBounds_toArray, List.set_cons_zero, List.set_cons_succ, Nat.zero_add, Nat.reduceAdd]; rw [if_pos (by simp [Region.wanted, yielded, hd])]; go_simp; exact ⟨Below.refl _ _, rfl⟩
        case r20s13 =>
          intro v W hE hd; (try simp [deps, waitsOn, Region.binds, knowing, isV, ownsV, anyV] at hd); simp only [putAll, List.take_succ_cons, List.take_zero, List.drop_succ_cons, List.drop_zero, Act.put, List.setIfInBounds_toArray, List.set_cons_zero, List.set_cons_succ, Nat.zero_add, Nat.reduceAdd]; rw [if_pos (by simp [Region.wanted, yielded, hd])]
          have e1 := cell_below hE Hn.out
          go_simp
          exact ⟨Below.refl _ _, rfl⟩
        case r20s14 =>
          intro v W hE hd; (try simp [deps, waitsOn, Region.binds, knowing, isV, ownsV, anyV] at hd); simp only [putAll, List.take_succ_cons, List.take_zero, List.drop_succ_cons, List.drop_zero, Act.put, List.setIfInBounds_toArray, List.set_cons_zero, List.set_cons_succ, Nat.zero_add, Nat.reduceAdd]; rw [if_pos (by simp [Region.wanted, yielded, hd])]
          go_simp
          refine (HC2.out _).mono ?_
          rintro e w' ⟨rfl, rfl⟩
          go_simp
          exact ⟨Below.refl _ _, rfl⟩
        case r20s15 =>
          intro v W hE hd; (try simp [deps, waitsOn, Region.binds, knowing, isV, ownsV, anyV] at hd); simp only [putAll, List.take_succ_cons, List.take_zero, List.drop_succ_cons, List.drop_zero, Act.put, List.setIfInBounds_toArray, List.set_cons_zero, List.set_cons_succ, Nat.zero_add, Nat.reduceAdd]; rw [if_pos (by simp [Region.wanted, yielded, hd])]
          go_simp
          exact ⟨Below.refl _ _, by first | rfl | (cases bm <;> rfl)⟩
        case r20s16 =>
          intro v W hE hd; simp only [Region.wanted, ↓reduceIte]; (try simp [deps, waitsOn, Region.binds, knowing, isV, ownsV, anyV] at hd); simp only [putAll, List.take_succ_cons, List.take_zero, List.drop_succ_cons, List.drop_zero, Act.put, List.setIfInBounds_toArray, List.set_cons_zero, List.set_cons_succ, Nat.zero_add, Nat.reduceAdd]; go_simp; exact ⟨Below.refl _ _, rfl⟩
      · rintro v W8 hE ⟨-, -, -, -, -, -, -, -, -, -, -, -, -, -, -, -, e16, -⟩
        have e16 := (show v 16 = _ from e16)
        simp only [putAll, List.take_succ_cons, List.take_zero, List.drop_succ_cons, List.drop_zero, Act.put, List.setIfInBounds_toArray, List.set_cons_zero, List.set_cons_succ, Nat.zero_add, Nat.reduceAdd]
        rw [e16]
        clear e16
        have HN8 := hid (HN.out.ext hE)
        clear hE HN
        go_wp2_with fail
        go_roundw
        case rel => exact ⟨k + 1, d', by omega, by omega, by go_num, rfl, HN8⟩
        case measure => simp [intOf]; omega
    · have hx : ¬ ((k : Int) < (n : Int)) ∨ ((k : Int) < (n : Int) ∧ ¬ ((k : Int) < 70)) := by omega
      clear hlt
      rcases hx with hx | ⟨hx1, hx2⟩
      · skip
        obtain ⟨S, m, g, l, F, hT, hb4, hB, ho⟩ := HI.out
        have HT := hid hT; have HB := hid hB
        clear hT hB ho hb4 HI
        go_wp2_with fail
        refine (list_at HT.out.disk).mono ?_
        rintro e w8 ⟨v1, rfl, hO1, hE8⟩
        obtain ⟨A1, c1, rfl, hs1⟩ := hO1.read
        rw [List.length_map] at hs1 ⊢
        obtain ⟨N, hN⟩ : ∃ N, N = F.length := ⟨_, rfl⟩
        have hN200 : N ≤ 200 := by rw [hN]; exact HT.out.disk.few
        rw [← hN] at hs1 ⊢
        have HN := hid hN
        have HS1 := hid hs1
        have HT8 := hid (HT.out.ext hE8)
        have HB8 := hid (below_then HB.out HB.out.size hE8)
        clear hN hs1 hO1 hE8 HT HB
        go_wp2_with fail
        refine (list_ref HT8.out.ref).mono ?_
        rintro e w9 ⟨v2, rfl, hO2, hE9⟩
        obtain ⟨A2, c2, rfl, hs2⟩ := hO2.read
        rw [List.length_map] at hs2 ⊢
        rw [← HN.out] at hs2 ⊢
        have HS2 := hid hs2
        have HS19 := hid (HS1.out.grow hE9)
        have HT9 := hid (HT8.out.ext hE9)
        have HB9 := hid (below_then HB8.out HB8.out.size hE9)
        clear hs2 hO2 hE9 HT8 HB8 HS1
        go_wp2_with fail
        refine (texts_at HS19.out HS2.out).mono ?_
        rintro e wt ⟨rfl, hEt⟩
        rw [decide_eq_true (show F.map (·.1) = F.map (·.1) from rfl)]
        have HTt := hid (HT9.out.ext hEt)
        have HSt := hid (HS19.out.grow hEt)
        have HBt := hid (below_then HB9.out HB9.out.size hEt)
        clear hEt HT9 HS19 HB9
        go_wp2_with fail
        refine (used_at HTt.out.disk).mono ?_
        rintro e w10 ⟨rfl, hE10⟩
        have HT9 := HTt; have HS19 := HSt; have HB9 := HBt
        have HT10 := hid (HT9.out.ext hE10)
        have HB10 := hid (below_then HB9.out HB9.out.size hE10)
        have HS10 := hid (HS19.out.grow hE10)
        clear hE10 HT9 HB9 HS19 HS2
        obtain ⟨U, hU⟩ : ∃ U, U = usedF F := ⟨_, rfl⟩
        rw [← hU]
        have HU := hid hU
        clear hU
        go_wp2_with fail
        refine (used_ref HT10.out.ref).mono ?_
        rintro e w' ⟨rfl, rfl⟩
        rw [← HU.out]
        go_wp2_with fail
        go_loopw [15] (fun i wr => ∃ k : Nat, k ≤ N ∧ i = .int .i64 (k : Int) ∧ Hid (Ext w10 wr)) (fun i _ => N - (intOf i).toNat)
        case atStart => exact ⟨0, by omega, rfl, Below.refl _ _⟩
        case round =>
          obtain ⟨k, hkN, rfl, HE⟩ := hrel
          by_cases hlt : k < N
          · have hkF : k < F.length := by have := HN.out; omega
            obtain ⟨b1, o1, rfl, -, f1⟩ := strs_at (HS10.out.grow HE.out) k (by rw [List.length_map]; exact hkF)
            rw [List.getElem_map] at f1
            have hnm := HT10.out.disk.short F[k] (List.getElem_mem _)
            generalize F[k].1 = nm at f1 hnm
            have Hf1 := hid f1
            have HTr := hid (HT10.out.ext HE.out)
            have hlt' : (k : Int) < (N : Int) := by omega
            have hk00 : ¬ ((k : Int) < 0) := by omega
            have hk0 : (0 : Int) ≤ (k : Int) := by omega
            go_wp2_with fail
            clear f1
            refine (readF_at HTr.out.disk nm hnm).mono ?_
            rintro e w11 ⟨v3, rfl, hO3, hE11⟩
            obtain ⟨A3, c3, rfl, -, hr3⟩ := OB.read hO3
            have HTs := hid (HTr.out.ext hE11)
            have HEs := hid (HE.out.trans (hE11.mono HE.out.size))
            have f2 := cell_below hE11 Hf1.out
            have Hr3 := hid hr3
            clear hO3 hE11 hr3 HTr
            go_wp2_with fail
            clear f2
            refine (read_ref HTs.out.ref nm).mono ?_
            rintro e w12 ⟨v4, rfl, hO4, hE12⟩
            obtain ⟨A4, c4, rfl, -, hr4⟩ := OB.read hO4
            have HEt := hid (HEs.out.trans (hE12.mono HEs.out.size))
            have hs3 := run_str (Hr3.out.below hE12) c3
            have hs4 := run_str hr4 c4
            have e3 := str_toList (readB F nm)
            generalize readB F nm = X at hs3 hs4 e3
            obtain ⟨L, hL⟩ : ∃ L, L = X.length := ⟨_, rfl⟩
            rw [← hL] at hs3 hs4 ⊢
            generalize readE F nm = E
            clear hO4 hE12 hr4 HTs HEs Hr3 hL
            go_wp2_with fail
            go_roundw
            case rel => exact ⟨k + 1, by omega, by go_num, HEt⟩
            case measure => simp [intOf]; omega
          · obtain rfl : k = N := by omega
            have hlt' : ¬ ((k : Int) < (k : Int)) := by omega
            go_wp2
            go_ret
            exact ⟨rfl, HB10.out.trans (HE.out.mono HB10.out.size)⟩
      · skip
        obtain ⟨S, m, g, l, F, hT, hb4, hB, ho⟩ := HI.out
        have HT := hid hT; have HB := hid hB
        clear hT hB ho hb4 HI
        go_wp2_with fail
        refine (list_at HT.out.disk).mono ?_
        rintro e w8 ⟨v1, rfl, hO1, hE8⟩
        obtain ⟨A1, c1, rfl, hs1⟩ := hO1.read
        rw [List.length_map] at hs1 ⊢
        obtain ⟨N, hN⟩ : ∃ N, N = F.length := ⟨_, rfl⟩
        have hN200 : N ≤ 200 := by rw [hN]; exact HT.out.disk.few
        rw [← hN] at hs1 ⊢
        have HN := hid hN
        have HS1 := hid hs1
        have HT8 := hid (HT.out.ext hE8)
        have HB8 := hid (below_then HB.out HB.out.size hE8)
        clear hN hs1 hO1 hE8 HT HB
        go_wp2_with fail
        refine (list_ref HT8.out.ref).mono ?_
        rintro e w9 ⟨v2, rfl, hO2, hE9⟩
        obtain ⟨A2, c2, rfl, hs2⟩ := hO2.read
        rw [List.length_map] at hs2 ⊢
        rw [← HN.out] at hs2 ⊢
        have HS2 := hid hs2
        have HS19 := hid (HS1.out.grow hE9)
        have HT9 := hid (HT8.out.ext hE9)
        have HB9 := hid (below_then HB8.out HB8.out.size hE9)
        clear hs2 hO2 hE9 HT8 HB8 HS1
        go_wp2_with fail
        refine (texts_at HS19.out HS2.out).mono ?_
        rintro e wt ⟨rfl, hEt⟩
        rw [decide_eq_true (show F.map (·.1) = F.map (·.1) from rfl)]
        have HTt := hid (HT9.out.ext hEt)
        have HSt := hid (HS19.out.grow hEt)
        have HBt := hid (below_then HB9.out HB9.out.size hEt)
        clear hEt HT9 HS19 HB9
        go_wp2_with fail
        refine (used_at HTt.out.disk).mono ?_
        rintro e w10 ⟨rfl, hE10⟩
        have HT9 := HTt; have HS19 := HSt; have HB9 := HBt
        have HT10 := hid (HT9.out.ext hE10)
        have HB10 := hid (below_then HB9.out HB9.out.size hE10)
        have HS10 := hid (HS19.out.grow hE10)
        clear hE10 HT9 HB9 HS19 HS2
        obtain ⟨U, hU⟩ : ∃ U, U = usedF F := ⟨_, rfl⟩
        rw [← hU]
        have HU := hid hU
        clear hU
        go_wp2_with fail
        refine (used_ref HT10.out.ref).mono ?_
        rintro e w' ⟨rfl, rfl⟩
        rw [← HU.out]
        go_wp2_with fail
        go_loopw [15] (fun i wr => ∃ k : Nat, k ≤ N ∧ i = .int .i64 (k : Int) ∧ Hid (Ext w10 wr)) (fun i _ => N - (intOf i).toNat)
        case atStart => exact ⟨0, by omega, rfl, Below.refl _ _⟩
        case round =>
          obtain ⟨k, hkN, rfl, HE⟩ := hrel
          by_cases hlt : k < N
          · have hkF : k < F.length := by have := HN.out; omega
            obtain ⟨b1, o1, rfl, -, f1⟩ := strs_at (HS10.out.grow HE.out) k (by rw [List.length_map]; exact hkF)
            rw [List.getElem_map] at f1
            have hnm := HT10.out.disk.short F[k] (List.getElem_mem _)
            generalize F[k].1 = nm at f1 hnm
            have Hf1 := hid f1
            have HTr := hid (HT10.out.ext HE.out)
            have hlt' : (k : Int) < (N : Int) := by omega
            have hk00 : ¬ ((k : Int) < 0) := by omega
            have hk0 : (0 : Int) ≤ (k : Int) := by omega
            go_wp2_with fail
            clear f1
            refine (readF_at HTr.out.disk nm hnm).mono ?_
            rintro e w11 ⟨v3, rfl, hO3, hE11⟩
            obtain ⟨A3, c3, rfl, -, hr3⟩ := OB.read hO3
            have HTs := hid (HTr.out.ext hE11)
            have HEs := hid (HE.out.trans (hE11.mono HE.out.size))
            have f2 := cell_below hE11 Hf1.out
            have Hr3 := hid hr3
            clear hO3 hE11 hr3 HTr
            go_wp2_with fail
            clear f2
            refine (read_ref HTs.out.ref nm).mono ?_
            rintro e w12 ⟨v4, rfl, hO4, hE12⟩
            obtain ⟨A4, c4, rfl, -, hr4⟩ := OB.read hO4
            have HEt := hid (HEs.out.trans (hE12.mono HEs.out.size))
            have hs3 := run_str (Hr3.out.below hE12) c3
            have hs4 := run_str hr4 c4
            have e3 := str_toList (readB F nm)
            generalize readB F nm = X at hs3 hs4 e3
            obtain ⟨L, hL⟩ : ∃ L, L = X.length := ⟨_, rfl⟩
            rw [← hL] at hs3 hs4 ⊢
            generalize readE F nm = E
            clear hO4 hE12 hr4 HTs HEs Hr3 hL
            go_wp2_with fail
            go_roundw
            case rel => exact ⟨k + 1, by omega, by go_num, HEt⟩
            case measure => simp [intOf]; omega
          · obtain rfl : k = N := by omega
            have hlt' : ¬ ((k : Int) < (k : Int)) := by omega
            go_wp2
            go_ret
            exact ⟨rfl, HB10.out.trans (HE.out.mono HB10.out.size)⟩
end Go.Proofs.YtpipmkaljkhgiaaDoor
