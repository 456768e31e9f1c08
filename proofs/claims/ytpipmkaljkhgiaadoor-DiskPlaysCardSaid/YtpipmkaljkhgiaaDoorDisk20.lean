/- The walk of disk.Crash. -/
import Derived.Test.YtpipmkaljkhgiaaDoorDisk19
namespace Go.Proofs.YtpipmkaljkhgiaaDoor
open Go Go.RowKit
set_option linter.unusedSimpArgs false
set_option linter.unusedVariables false

def crashN (keep : Int) (f : File) : Nat := f.safe + min (max keep 0).toNat (f.b.length - f.safe)
def crash1 (keep : Int) (f : File) : File := ⟨f.b.take (crashN keep f), crashN keep f⟩
def crashF (keep : Int) (F : Files) : Files := F.map fun p => (p.1, crash1 keep p.2)
def crashV (keep : Int) : Value → Value
  | .agg cs => match cs.toList with
    | .slice A n _ :: .int .i64 sf :: _ => .agg #[.slice A (sf.toNat + min (max keep 0).toNat (n - sf.toNat)) (sf.toNat + min (max keep 0).toNat (n - sf.toNat)), .int .i64 ((sf.toNat + min (max keep 0).toNat (n - sf.toNat) : Nat) : Int)]
    | _ => .agg cs
  | v => v
def crashL (keep : Int) (left : Lit → Bool) (G : Raw) : Raw := G.map fun p => if left (.string p.1) then p else (p.1, crashV keep p.2)
theorem crashL_names (keep : Int) (left : Lit → Bool) (G : Raw) : (crashL keep left G).map (·.1) = G.map (·.1) := by
  unfold crashL
  rw [List.map_map]
  refine List.map_congr_left fun p _ => ?_
  simp only [Function.comp]
  split <;> rfl
theorem crashL_start (keep : Int) (G : Raw) : crashL keep (Maps.has (DataW.map (rawL G))) G = G := by
  unfold crashL
  conv => rhs; rw [← List.map_id G]
  refine List.map_congr_left fun p hp => ?_
  rw [if_pos]
  · rfl
  · rw [rawL_has]
    unfold atL
    rw [Option.isSome_map, List.find?_isSome]
    exact ⟨p, hp, by simp⟩
theorem crashL_step (keep : Int) (left : Lit → Bool) (nm : List UInt8) (v : Value) {G : Raw} (hu : Up G) (hat : atL (crashL keep left G) nm = some v) (hl : left (.string nm) = true) :
    putL nm (crashV keep v) (crashL keep left G) = crashL keep (fun z => left z && !z.sameKey (.string nm)) G ∧ atL G nm = some v := by
  have hu' : Up (crashL keep left G) := up_names hu (crashL_names keep left G).symm
  have hmem : nm ∈ (crashL keep left G).map (·.1) := by
    unfold atL at hat
    cases hf : (crashL keep left G).find? (·.1 == nm) with
    | none => rw [hf] at hat; cases hat
    | some p => exact List.mem_map.2 ⟨p, List.mem_of_find?_eq_some hf, by have := List.find?_some hf; simpa using this⟩
  have key : ∀ G : Raw, atL (crashL keep left G) nm = atL G nm := by
    intro G
    induction G with
    | nil => rfl
    | cons p G ih =>
      unfold atL crashL at ih ⊢
      rw [List.map_cons, List.find?_cons, List.find?_cons]
      by_cases e : p.1 = nm
      · rw [if_pos (by rw [e]; exact hl)]
        simp [e]
      · have h1 : ((if left (.string p.1) then p else (p.1, crashV keep p.2)).1 == nm) = false := by
          split <;> simpa using e
        rw [h1, beq_eq_false_iff_ne.2 e]
        exact ih
  have hat' := (key G).symm.trans hat
  refine ⟨?_, hat'⟩
  rw [putL_there nm _ hu' hmem]
  unfold crashL
  rw [List.map_map]
  refine List.map_congr_left fun p hp => ?_
  simp only [Function.comp, same_str]
  by_cases e : p.1 = nm
  · have hv : v = p.2 := by
      have hnd := hu.nodup
      have : ∀ (G : Raw), (G.map (·.1)).Nodup → p ∈ G → atL G nm = some v → v = p.2 := by
        intro G
        induction G with
        | nil => intro _ h; cases h
        | cons q G ih =>
          intro hn hp hat
          rw [List.map_cons, List.nodup_cons] at hn
          unfold atL at hat
          rw [List.find?_cons] at hat
          by_cases eq : q.1 = nm
          · rw [beq_iff_eq.2 eq] at hat
            have hq : v = q.2 := by simpa using hat.symm
            rcases List.mem_cons.1 hp with h | h
            · rw [h, hq]
            · exact absurd (List.mem_map.2 ⟨p, h, by rw [e, eq]⟩) hn.1
          · rw [beq_eq_false_iff_ne.2 eq] at hat
            rcases List.mem_cons.1 hp with h | h
            · exact absurd (h ▸ e) eq
            · exact ih hn.2 h hat
      exact this G hnd hp hat'
    rw [if_pos (show left (.string p.1) = true by rw [e]; exact hl)]
    simp [e, hv]
  · by_cases hlp : left (.string p.1) = true
    · simp [hlp, e]
    · simp [hlp, e]
theorem crashL_done (keep : Int) (left : Lit → Bool) (G : Raw) (h : ∀ kl, left kl = false) : crashL keep left G = G.map fun p => (p.1, crashV keep p.2) := by
  unfold crashL
  simp [h]
theorem crash_held {w : World} {S : Nat → Prop} (keep : Int) : ∀ {G : Raw} {F : Files}, Held w S G F → Held w S (G.map fun p => (p.1, crashV keep p.2)) (crashF keep F)
  | [], [], _ => trivial
  | p :: G, f :: F, ⟨h1, h2, h3⟩ => by
    refine ⟨h1, ?_, crash_held keep h3⟩
    obtain ⟨A, c, e, hc, hcm, hs, hb, hr⟩ := h2
    have hl : (f.2.b.take (crashN keep f.2)).length = crashN keep f.2 := by
      rw [List.length_take]; unfold crashN; omega
    have hle : crashN keep f.2 ≤ f.2.b.length := by unfold crashN; omega
    show FileV w S (crashV keep p.2) (crash1 keep f.2)
    rw [e]
    refine ⟨A, crashN keep f.2, ?_, by unfold crash1; simp only; rw [hl]; exact Nat.le_refl _, by omega, by unfold crash1; simp only; rw [hl]; exact Nat.le_refl _, by unfold crash1; simp only; rw [hl]; omega, ?_⟩
    · unfold crash1 crashV
      simp only [hl, Int.toNat_natCast]
      rfl
    · unfold crash1
      simp only
      rcases hr with h0 | ⟨b, o, e, kb, hv⟩
      · exact .inl (by rw [show f.2.b = [] by cases hfb : f.2.b with
          | nil => rfl
          | cons x l => rw [hfb] at h0; simp [bvs] at h0]; simp [bvs])
      · refine .inr ⟨b, o, e, kb, fun j v hj => hv j v ?_⟩
        simp only [bvs, List.getElem?_map, List.getElem?_take] at hj ⊢
        split at hj
        · exact hj
        · cases hj
theorem DiskS.relit {w : World} {d m : Nat} {q l : Int} (h : DiskS w d m q l) (x : Int) : DiskS (w.setCell ⟨d, 1, none⟩ (.int .i64 x)) d m q x := by
  refine ⟨?_, ?_, ?_, ?_⟩
  · exact (World.cell?_setCell_other (w := w) (a := ⟨d, 1, none⟩) (b := ⟨d, 0, none⟩) (v := .int .i64 x) (h := by simp)).trans h.quota
  · exact World.cell?_setCell_same (w := w) (a := ⟨d, 1, none⟩) (h := h.left) ..
  · exact (World.cell?_setCell_other (w := w) (a := ⟨d, 1, none⟩) (b := ⟨d, 2, none⟩) (v := .int .i64 x) (h := by simp)).trans h.files
  · simp only [World.frozen?_setCell]; exact h.free
theorem run_min2 (a b c : Int) (hc : c = min a b) (ts : Array TypeId) (t : TypeId) (w : World) : (Builtin.min_ ts t #[.int .i64 a, .int .i64 b]).run Tryd.prog w = .ok (.int .i64 c) w := by
  simp [Builtin.min_, Builtin.min2]
  repeat' split
  all_goals omega
theorem atL_held {w : World} {S : Nat → Prop} {G : Raw} {F : Files} (h : Held w S G F) {nm : List UInt8} {A : Option Addr} {n c : Nat} {sf : Int} (hat : atL G nm = some (.agg #[.slice A n c, .int .i64 sf])) : ∃ s : Nat, sf = (s : Int) ∧ s ≤ n ∧ n ≤ c ∧ c ≤ 9223372036854775807 ∧ n ≤ 65536 := by
  rcases h.at_ nm with ⟨e1, e2⟩ | ⟨f, v, e1, e2, A', c', rfl, hc, hcm, hs, hb, -⟩
  · rw [e2] at hat; cases hat
  · rw [e2] at hat
    simp only [Option.some.injEq, Value.agg.injEq, Array.mk.injEq, List.cons.injEq, Value.slice.injEq, Value.int.injEq, true_and, and_true] at hat
    obtain ⟨⟨rfl, rfl, rfl⟩, rfl⟩ := hat
    exact ⟨f.safe, rfl, hs, hc, hcm, hb⟩
set_option maxRecDepth 100000 in
set_option maxHeartbeats 2000000 in
theorem crash_at {w : World} {S : Nat → Prop} {d m : Nat} {q l : Int} {F : Files} (h : DiskIs w S d m q l F) (keep : Int) (hkeep : keep ≤ 9223372036854775807) :
    Calls Tryd.prog 16 #[.pointer (some ⟨d, 0, none⟩), .int .i64 keep] w fun e w' => e = .returned (.tuple #[]) ∧ DiskIs w' S d m q (-1) (crashF keep F) ∧ Kept2 d m w w' := by
  have H := hid h
  obtain ⟨G, hG, hH⟩ := h.map
  have HH := hid hH
  have hdlt := h.str.lt
  have hmlt := hG.lt
  have c1 := h.str.left
  have cf := h.str.free
  have HD1 := hid (h.str.relit (-1))
  have HM1 := hid (hG.set ⟨d, 1, none⟩ (.int .i64 (-1)) (fun e => h.ne e.symm))
  have HK1 := hid (show Kept2 d m w (w.setCell ⟨d, 1, none⟩ (.int .i64 (-1))) from ⟨rfl, rfl, rfl, by simp, fun k hk h1 _ => heap_setCell_other w ⟨d, 1, none⟩ k _ (fun e => h1 e)⟩)
  have hmax := run_max0 keep ((max keep 0).toNat : Int) (by omega)
  obtain ⟨kp, hkp⟩ : ∃ kp, kp = (max keep 0).toNat := ⟨_, rfl⟩
  have hkm : (kp : Int) ≤ 9223372036854775807 := by omega
  rw [← hkp] at hmax
  have Hkp := hid hkp
  have Hup := hid hG.up
  have c2 := HD1.out.files
  have hsz : (w.setCell ⟨d, 1, none⟩ (.int .i64 (-1))).heap.size = w.heap.size := by simp
  have Hsz := hid hsz
  clear h hG hH hkp hsz
  go_enter Tryd.func16, Tryd.ntmps16
  go_wp2_with (at_range; refine wpList_range_own _ rfl (.tmp 13) 56 rfl 9 60 keyedS Tryd.underlying56 rawE m G.length (.map (rawL G)) rfl HM1.out ?_; intro w1 hr1 hg1 hs1; go_frame)
  clear c1 cf c2
  have hE1 : Ext (w.setCell ⟨d, 1, none⟩ (.int .i64 (-1))) w1 := ⟨hg1.os, hg1.tape, hg1.output, hg1.size, fun k hk => hg1.block k hk (by simp)⟩
  have HD2 := hid (HD1.out.ext hE1)
  have HK2 := hid (HK1.out.trans (Kept2.of_ext hE1))
  rw [Hsz.out] at hr1 hs1 ⊢
  clear hg1 hE1
  go_loopw [4] (fun _ wr => ∃ (left : Lit → Bool) (cnt : Nat), wr.ranges Tryd.prog 9 rawE m w.heap.size G.length (.map (rawL (crashL keep left G))) left cnt ∧ Hid (DiskS wr d m q (-1)) ∧ Hid (Kept2 d m w wr) ∧ w.heap.size < wr.heap.size) (fun _ wr => wr.rangeLeft m w.heap.size)
  case atStart =>
    exact ⟨_, _, by rw [crashL_start]; exact hr1, HD2, HK2, by omega⟩
  case round =>
    clear hr1 HD2 HK2 hs1
    obtain ⟨left, cnt, hrg, HD, HK, hlt1⟩ := hrel
    go_wp2_with (at_next; refine wpList_next_ranges _ rfl (.tmp 14) rfl 9 keyedS rawE (fun nm : List UInt8 => .string (str nm)) mkFile invName invFile m w.heap.size G.length (.map (rawL (crashL keep left G))) left cnt rfl hrg ?_ ?_)
    · intro hc0 hl0
      have hM := MapAt.of hrg.owns
      rw [crashL_done keep left G hl0] at hM
      have HM := hid hM
      clear hM hl0 hrg
      go_wp2
      go_end0
      have h1 := crash_held keep (HH.out.kept HK.out H.out.own H.out.ownM)
      refine ⟨rfl, H.out.after HD.out ⟨_, HM.out, h1⟩ HK.out ?_ (by omega), HK.out⟩
      unfold crashF; rw [List.length_map]; exact H.out.few
    · intro nm A n c sf kl y1 y2 w2 cnt2 hkey hlk hy hat hrg2 hlt hg2 hs2 hen
      have hkl := name_lit nm kl hkey
      subst hkl
      have hy2 := (rawE_inv hy).2
      simp only [Prod.mk.injEq] at hy2
      obtain ⟨rfl, rfl⟩ := hy2
      have hat1 : atL (crashL keep left G) nm = some (mkFile (A, n, c, sf)) := by
        have a1 := hat (.held zfile)
        have a2 := hat .nil
        rw [rawL_at] at a1
        simp only [DataW.held.injEq] at a1
        cases hq : atL (crashL keep left G) nm with
        | none =>
          exfalso
          have hf : ((crashL keep left G).find? (·.1 == nm)) = none := by unfold atL at hq; simpa using hq
          unfold DataW.atKey at a2
          simp only at a2
          rw [rawL_find, hf] at a2
          cases a2
        | some v => rw [hq] at a1; exact congrArg some a1
      obtain ⟨hput, hatG⟩ := crashL_step keep left nm _ Hup.out hat1 hlk
      obtain ⟨s, rfl, hsn, hnc, hcm, hn64⟩ := atL_held (A := A) (n := n) (c := c) (sf := sf) HH.out hatG
      have hmk : mkFile (A, n, c, (s : Int)) = .agg #[.slice A n c, .int .i64 (s : Int)] := rfl
      rw [hmk] at hen hput ⊢
      obtain ⟨mn, hmn⟩ : ∃ mn, mn = min kp (n - s) := ⟨_, rfl⟩
      obtain ⟨k, hk⟩ : ∃ k, k = s + mn := ⟨_, rfl⟩
      have hcv : crashV keep (.agg #[.slice A n c, .int .i64 (s : Int)]) = .agg #[.slice A k k, .int .i64 (k : Int)] := by
        unfold crashV
        simp only [Int.toNat_natCast]
        rw [hk, hmn, Hkp.out]
      rw [hcv] at hput
      have Hput := hid hput
      have hin : Maps.has (DataW.map (rawL (crashL keep left G))) (.string nm) = true := by rw [rawL_has, hat1]; rfl
      have Hin := hid hin
      have Hkey := hid hkey
      have hmin := run_min2 (kp : Int) ((n : Int) - (s : Int)) (mn : Int) (by omega)
      have hkk := hid (show (s : Int) + (mn : Int) = (k : Int) by omega)
      have hkn : k ≤ n := by omega
      have hk64 : (k : Int) ≤ (c : Int) := by omega
      have HD2 := hid (HD.out.of_block (hg2.block d HD.out.lt (fun e => by simp at e; omega)))
      have HK2 : Hid (Kept2 d m w w2) := ⟨hg2.os.trans HK.out.os, hg2.tape.trans HK.out.tape, hg2.output.trans HK.out.output, Nat.le_trans HK.out.size hg2.size, fun i hi h1 h2 => (hg2.block i (by omega) (fun e => by simp at e; omega)).trans (HK.out.block i hi h1 h2)⟩
      have hmnn : (mn : Int) ≤ (n : Int) - (s : Int) := by omega
      have hdc := HD2.out.files
      have Hlk := hid hlk
      have Hlt := hid hlt
      have Hs2 := hid hs2
      have Hleq := hid hrg.left_eq
      have Hrg2 := hid hrg2
      clear hput hin hkey hat hat1 hatG hcv hk hmn hy hmk hlk hlt hg2 hs2 hrg hrg2
      go_wp2_with fail
      rw [hkk.out]
      have Hf0 := hid (show (w2.alloc (.cells #[.slice A n c, .int .i64 (s : Int)] 60)).cell? ⟨w2.heap.size, 0, none⟩ = some (.slice A n c) by rw [cell_of_row _ _ _ _ _ _ (heap_alloc_last w2 _)]; rfl)
      have HE2 := hid (show Ext w2 (w2.alloc (.cells #[.slice A n c, .int .i64 (s : Int)] 60)) from (Below.refl _ _).alloc (Nat.le_refl _) _)
      clear hen hdc hmin hmax
      apply wp_drawn_last 12 [isV _, isV _, isV _, isV _, isV _, isV _, isV _, isV _, isV _, isV _, isV _, isV _] (by decide) (by kernel_rfl)
      · kernel_rfl
      · kernel_rfl
      · refine ⟨?r5s0, ?r5s1, ?r5s2, ?r5s3, ?r5s4, ?r5s5, ?r5s6, ?r5s7, ?r5s8, ?r5s9, ?r5s10, ?r5s11, trivial⟩
        case r5s0 =>
          intro v W hE hd; simp only [Region.wanted, ↓reduceIte]; (try simp [deps, waitsOn, Region.binds, knowing, isV, ownsV, anyV] at hd); simp only [putAll, List.take_succ_cons, List.take_zero, List.drop_succ_cons, List.drop_zero, Act.put, List.setIfInBounds_toArray, List.set_cons_zero, List.set_cons_succ, Nat.zero_add, Nat.reduceAdd]; go_simp; exact ⟨Below.refl _ _, rfl⟩
        case r5s1 =>
          intro v W hE hd; simp only [Region.wanted, ↓reduceIte]; (try simp [deps, waitsOn, Region.binds, knowing, isV, ownsV, anyV] at hd); simp only [putAll, List.take_succ_cons, List.take_zero, List.drop_succ_cons, List.drop_zero, Act.put, List.setIfInBounds_toArray, List.set_cons_zero, List.set_cons_succ, Nat.zero_add, Nat.reduceAdd]; go_simp; exact ⟨Below.refl _ _, rfl⟩
        case r5s2 =>
          intro v W hE hd; simp only [Region.wanted, ↓reduceIte]; (try simp [deps, waitsOn, Region.binds, knowing, isV, ownsV, anyV] at hd); simp only [putAll, List.take_succ_cons, List.take_zero, List.drop_succ_cons, List.drop_zero, Act.put, List.setIfInBounds_toArray, List.set_cons_zero, List.set_cons_succ, Nat.zero_add, Nat.reduceAdd]; go_simp; exact ⟨Below.refl _ _, rfl⟩
        case r5s3 =>
          intro v W hE hd; simp only [Region.wanted, ↓reduceIte]; (try simp [deps, waitsOn, Region.binds, knowing, isV, ownsV, anyV] at hd); simp only [putAll, List.take_succ_cons, List.take_zero, List.drop_succ_cons, List.drop_zero, Act.put, List.setIfInBounds_toArray, List.set_cons_zero, List.set_cons_succ, Nat.zero_add, Nat.reduceAdd]
          have e1 := cell_below (Ext.trans' HE2.out hE) HD2.out.files
          go_simp
          exact ⟨Below.refl _ _, rfl⟩
        case r5s4 =>
          intro v W hE hd; simp only [Region.wanted, ↓reduceIte]; (try simp [deps, waitsOn, Region.binds, knowing, isV, ownsV, anyV] at hd); simp only [putAll, List.take_succ_cons, List.take_zero, List.drop_succ_cons, List.drop_zero, Act.put, List.setIfInBounds_toArray, List.set_cons_zero, List.set_cons_succ, Nat.zero_add, Nat.reduceAdd]; go_simp; exact ⟨Below.refl _ _, rfl⟩
        case r5s5 =>
          intro v W hE hd; simp only [Region.wanted, ↓reduceIte]; (try simp [deps, waitsOn, Region.binds, knowing, isV, ownsV, anyV] at hd); simp only [putAll, List.take_succ_cons, List.take_zero, List.drop_succ_cons, List.drop_zero, Act.put, List.setIfInBounds_toArray, List.set_cons_zero, List.set_cons_succ, Nat.zero_add, Nat.reduceAdd]; go_simp; exact ⟨Below.refl _ _, rfl⟩
        case r5s6 =>
          intro v W hE hd; simp only [Region.wanted, ↓reduceIte]; (try simp [deps, waitsOn, Region.binds, knowing, isV, ownsV, anyV] at hd); simp only [putAll, List.take_succ_cons, List.take_zero, List.drop_succ_cons, List.drop_zero, Act.put, List.setIfInBounds_toArray, List.set_cons_zero, List.set_cons_succ, Nat.zero_add, Nat.reduceAdd]
          have e1 := cell_below hE Hf0.out
          go_simp
          exact ⟨Below.refl _ _, rfl⟩
        case r5s7 =>
          intro v W hE hd; simp only [Region.wanted, ↓reduceIte]; (try simp [deps, waitsOn, Region.binds, knowing, isV, ownsV, anyV] at hd); simp only [putAll, List.take_succ_cons, List.take_zero, List.drop_succ_cons, List.drop_zero, Act.put, List.setIfInBounds_toArray, List.set_cons_zero, List.set_cons_succ, Nat.zero_add, Nat.reduceAdd]; go_simp; exact ⟨Below.refl _ _, rfl⟩
        case r5s8 =>
          intro v W hE hd; simp only [Region.wanted, ↓reduceIte]; (try simp [deps, waitsOn, Region.binds, knowing, isV, ownsV, anyV] at hd); simp only [putAll, List.take_succ_cons, List.take_zero, List.drop_succ_cons, List.drop_zero, Act.put, List.setIfInBounds_toArray, List.set_cons_zero, List.set_cons_succ, Nat.zero_add, Nat.reduceAdd]; go_simp; exact ⟨Below.refl _ _, rfl⟩
        case r5s9 =>
          intro v W hE hd; simp only [Region.wanted, ↓reduceIte]; (try simp [deps, waitsOn, Region.binds, knowing, isV, ownsV, anyV] at hd); simp only [putAll, List.take_succ_cons, List.take_zero, List.drop_succ_cons, List.drop_zero, Act.put, List.setIfInBounds_toArray, List.set_cons_zero, List.set_cons_succ, Nat.zero_add, Nat.reduceAdd]; go_simp; exact ⟨Below.refl _ _, rfl⟩
        case r5s10 =>
          intro v W hE hd; simp only [Region.wanted, ↓reduceIte]; (try simp [deps, waitsOn, Region.binds, knowing, isV, ownsV, anyV] at hd); simp only [putAll, List.take_succ_cons, List.take_zero, List.drop_succ_cons, List.drop_zero, Act.put, List.setIfInBounds_toArray, List.set_cons_zero, List.set_cons_succ, Nat.zero_add, Nat.reduceAdd]; go_simp; exact ⟨Below.refl _ _, rfl⟩
        case r5s11 =>
          intro v W hE hd; simp only [Region.wanted, ↓reduceIte]; (try simp [deps, waitsOn, Region.binds, knowing, isV, ownsV, anyV] at hd); simp only [putAll, List.take_succ_cons, List.take_zero, List.drop_succ_cons, List.drop_zero, Act.put, List.setIfInBounds_toArray, List.set_cons_zero, List.set_cons_succ, Nat.zero_add, Nat.reduceAdd]; go_simp; exact ⟨Below.refl _ _, rfl⟩
      · rintro v W hE ⟨-, -, -, e3, e4, -, -, -, -, -, -, e11, -⟩
        have e3 := (show v 3 = _ from e3)
        have e4 := (show v 4 = _ from e4)
        have e11 := (show v 11 = _ from e11)
        simp only [putAll, List.take_succ_cons, List.take_zero, List.drop_succ_cons, List.drop_zero, Act.put, List.setIfInBounds_toArray, List.set_cons_zero, List.set_cons_succ, Nat.zero_add, Nat.reduceAdd]
        rw [e3, e4, e11]
        have hrgW := Hrg2.out.kept (w' := W) (row := none) ⟨hE.os, hE.tape, hE.output, Nat.le_trans HE2.out.size hE.size, fun i hi _ => (hE.block i (Nat.lt_of_lt_of_le hi HE2.out.size)).trans (HE2.out.block i hi)⟩ (by simp) (by simp)
        obtain ⟨w7, hrun, hrg7, ht7⟩ := ranges_store hrgW keyedS Tryd.underlying56 Hkey.out (rawE_mk (v := .agg #[.slice A k k, .int .i64 (k : Int)]) rfl) Hin.out
        rw [rawL_put, Hput.out] at hrg7
        have Hrg7 := hid hrg7
        have Ht7 := hid ht7.grown
        have hEW := hid (Ext.trans' HE2.out hE)
        clear hrgW hrg7 ht7 e3 e4 e11 hE
        go_wp2_with fail
        go_roundw
        case rel =>
          refine ⟨_, cnt2, Hrg7.out, ?_, ?_, ?_⟩
          · exact (HD2.out.ext hEW.out).of_block (Ht7.out.block d (HD2.out.ext hEW.out).lt (fun e => H.out.ne (by simpa using e)))
          · exact HK2.out.trans ((Kept2.of_ext hEW.out).trans (Kept2.of_grown Ht7.out (.inr rfl)))
          · have := hEW.out.size; have := Ht7.out.size; have := Hs2.out; omega
        case measure =>
          rw [Hrg7.out.left_eq, Hleq.out]
          exact Hlt.out
end Go.Proofs.YtpipmkaljkhgiaaDoor
