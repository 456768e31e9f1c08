/- The reference's disk: put. -/
import Derived.Test.YtpipmkaljkhgiaaDoorRD2
namespace Go.Proofs.YtpipmkaljkhgiaaDoor
open Go Go.RowKit
set_option linter.unusedSimpArgs false
set_option linter.unusedVariables false

theorem bytesLess_eq : ∀ (a b : List UInt8), Op.bytesLess a b = bytesBefore a b
  | [], [] => rfl
  | [], _ :: _ => rfl
  | _ :: _, [] => rfl
  | x :: a, y :: b => by unfold Op.bytesLess bytesBefore; rw [bytesLess_eq a b]
/-- What put's loop adds from here on. -/
def putGo (p : List UInt8 × File) : Bool → Files → Files
  | true, [] => []
  | false, [] => [p]
  | true, x :: r => (if x.1 = p.1 then [] else [x]) ++ putGo p true r
  | false, x :: r => if bytesBefore p.1 x.1 = true ∨ p.1 = x.1 then p :: ((if x.1 = p.1 then [] else [x]) ++ putGo p true r) else (if x.1 = p.1 then [] else [x]) ++ putGo p false r
theorem putGo_true (p : List UInt8 × File) : ∀ F : Files, putGo p true F = delF p.1 F
  | [] => rfl
  | x :: r => by
    unfold putGo delF
    rw [putGo_true p r, List.filter_cons]
    by_cases h : x.1 = p.1
    · simp [h, delF]
    · simp [h, delF]
theorem putGo_eq (p : List UInt8 × File) : ∀ F : Files, Up F → putGo p false F = putF p.1 p.2 F
  | [], _ => rfl
  | x :: r, hu => by
    obtain ⟨h1, h2⟩ := List.pairwise_cons.1 hu
    have ih := putGo_eq p r h2
    unfold putGo
    by_cases hb : bytesBefore p.1 x.1 = true ∨ p.1 = x.1
    · rw [if_pos hb, putGo_true]
      by_cases he : x.1 = p.1
      · rw [if_pos he, List.nil_append]
        unfold putF
        have hn : ∀ q ∈ r, q.1 ≠ p.1 := fun q hq => by rw [← he]; exact (bb_ne (h1 q hq)).symm
        have e : delF p.1 (x :: r) = r := by
          unfold delF
          rw [List.filter_cons, if_neg (by simp [he]), DelL_none p.1 r hn]
        rw [e]
        have e2 : delF p.1 r = r := DelL_none p.1 r hn
        rw [e2]
        cases r with
        | nil => rfl
        | cons z r' =>
          unfold insF
          rw [if_pos (show bytesBefore (p.1, p.2).1 z.1 = true by show bytesBefore p.1 z.1 = true; rw [← he]; exact h1 z (by simp))]
      · rw [if_neg he]
        have hlt : bytesBefore p.1 x.1 = true := by
          rcases hb with h | h
          · exact h
          · exact absurd h.symm he
        unfold putF
        have e : delF p.1 (x :: r) = x :: delF p.1 r := by
          unfold delF
          rw [List.filter_cons, if_pos (by simp [he])]
        rw [e]
        unfold insF
        rw [if_pos (show bytesBefore (p.1, p.2).1 x.1 = true from hlt)]; rfl
    · rw [if_neg hb]
      have he : ¬ x.1 = p.1 := fun h => hb (.inr h.symm)
      rw [if_neg he, ih]
      unfold putF
      have e : delF p.1 (x :: r) = x :: delF p.1 r := by
        unfold delF
        rw [List.filter_cons, if_pos (by simp [he])]
      rw [e]
      conv => rhs; unfold insF
      rw [if_neg (show ¬ bytesBefore (p.1, p.2).1 x.1 = true from fun h => hb (.inl h))]; rfl
theorem bb_total : ∀ (a b : List UInt8), a ≠ b → bytesBefore a b = true ∨ bytesBefore b a = true
  | [], [], h => absurd rfl h
  | [], _ :: _, _ => .inl rfl
  | _ :: _, [], _ => .inr rfl
  | x :: a, y :: b, h => by
    unfold bytesBefore
    simp only [Bool.or_eq_true, decide_eq_true_eq, Bool.and_eq_true, beq_iff_eq]
    by_cases e : x = y
    · subst e
      rcases bb_total a b (fun e => h (by rw [e])) with h' | h'
      · exact .inl (.inr ⟨rfl, h'⟩)
      · exact .inr (.inr ⟨rfl, h'⟩)
    · have : x.toNat ≠ y.toNat := fun e' => e (UInt8.toNat_inj.1 e')
      rcases Nat.lt_or_gt_of_ne this with h' | h'
      · exact .inl (.inl (UInt8.lt_iff_toNat_lt.2 h'))
      · exact .inr (.inl (UInt8.lt_iff_toNat_lt.2 h'))
theorem mem_insF {x q : List UInt8 × File} : ∀ {F : Files}, q ∈ insF x F → q = x ∨ q ∈ F
  | [], h => by
    unfold insF at h
    exact .inl (List.mem_singleton.1 h)
  | y :: r, h => by
    unfold insF at h
    split at h
    · rcases List.mem_cons.1 h with h | h
      · exact .inl h
      · exact .inr h
    · rcases List.mem_cons.1 h with h | h
      · exact .inr (by simp [h])
      · rcases mem_insF h with h | h
        · exact .inl h
        · exact .inr (by simp [h])
theorem up_insF {nm : List UInt8} {f : File} : ∀ {F : Files}, Up F → (∀ p ∈ F, p.1 ≠ nm) → Up (insF (nm, f) F)
  | [], _, _ => by simp [insF, Up]
  | y :: r, hu, hn => by
    obtain ⟨h1, h2⟩ := List.pairwise_cons.1 hu
    unfold insF
    split
    · rename_i hb
      refine List.pairwise_cons.2 ⟨fun q hq => ?_, hu⟩
      rcases List.mem_cons.1 hq with rfl | hq
      · exact hb
      · exact bb_trans hb (h1 q hq)
    · rename_i hb
      refine List.pairwise_cons.2 ⟨fun q hq => ?_, up_insF h2 fun p hp => hn p (by simp [hp])⟩
      rcases mem_insF hq with rfl | hq
      · rcases bb_total nm y.1 (fun e => hn y (by simp) e.symm) with h | h
        · exact absurd h hb
        · exact h
      · exact h1 q hq
theorem up_delF {F : Files} (hu : Up F) (nm : List UInt8) : Up (delF nm F) := List.Pairwise.filter _ hu
theorem up_putF {F : Files} (hu : Up F) (nm : List UInt8) (f : File) : Up (putF nm f F) :=
  up_insF (up_delF hu nm) fun p hp => by unfold delF at hp; have := (List.mem_filter.1 hp).2; simpa using this
theorem ok_delF {F : Files} (h : OkF F) (nm : List UInt8) : OkF (delF nm F) := fun p hp => h p (List.mem_filter.1 hp).1
theorem ok_putF {F : Files} (h : OkF F) (nm : List UInt8) {f : File} (hf : f.b.length ≤ 65536 ∧ f.safe ≤ f.b.length) : OkF (putF nm f F) := fun p hp => by
  rcases mem_insF hp with rfl | hp
  · exact hf
  · exact ok_delF h nm p hp
theorem finfo : SlInfo Tryd.prog 66 75 (.agg #[.string ⟨#[]⟩, .slice none 0 0, .int .i64 0]) RFile.size 48 := ⟨Tryd.underlying66, by kernel_rfl, rfl, by decide⟩
/-- The row stored. -/
theorem ref_stored {w W : World} {S : Nat → Prop} {y g : Nat} {q l : Int} {F : Files} {p : List UInt8 × File} {v : Value} {B : Nat} (h : RefIs w S y g q l F) (hok : p.2.b.length ≤ 65536 ∧ p.2.safe ≤ p.2.b.length) (hfew : F.length < 200 ∨ ∃ f0, atF F p.1 = some f0)
    (hE : Ext w W) (hO : OwnK RFile 75 (Imm w S) W B v (putF p.1 p.2 F)) (hB : w.heap.size < B) :
    ∃ S' g', RefIs (W.setCell ⟨y, 2, none⟩ v) S' y g' q l (putF p.1 p.2 F) ∧ RStep w (W.setCell ⟨y, 2, none⟩ v) S S' y g ∧ (g' = g ∨ w.heap.size ≤ g') := by
  have hy := h.lt
  have hpos : 0 < (putF p.1 p.2 F).length := by unfold putF; rw [length_insF]; omega
  obtain ⟨g', c, hv, hob, hg1, hg2, -⟩ := hO.at_ hpos
  have hb := hE.block y hy
  obtain ⟨v0, e1, -, -⟩ := h.row
  have hgy : g' ≠ y := by omega
  have hsz := hE.size
  have hS' : ∀ k, (W.setCell ⟨y, 2, none⟩ v).heap.size ≤ k → ¬ (S k ∨ k = g') := fun k hk => by
    have hk' : W.heap.size ≤ k := by simpa using hk
    rintro (h' | h')
    · exact h.fresh k (by omega) h'
    · omega
  refine ⟨fun k => S k ∨ k = g', g', ⟨?_, ?_, ?_, ⟨v, ?_, ?_, .inr ⟨hob, hgy⟩⟩, .inl h.own, .inr rfl, by simpa using hg2, hS', ?_, up_putF h.up _ _, ok_putF h.ok _ hok, h.lr⟩, ⟨⟨hE.os, hE.tape, hE.output, by simpa using hsz, fun k hk h1 _ => (heap_setCell_other W ⟨y, 2, none⟩ k v h1).trans (hE.block k hk)⟩, fun k hk => ⟨fun h' => by rcases h' with h' | h'; exact h'; omega, .inl⟩, hS'⟩, .inr (by omega)⟩
  · exact (World.cell?_setCell_other (w := W) (a := ⟨y, 2, none⟩) (b := ⟨y, 0, none⟩) (v := v) (h := by simp)).trans ((World.cell?_of_block (a := ⟨y, 0, none⟩) hb).trans h.quota)
  · exact (World.cell?_setCell_other (w := W) (a := ⟨y, 2, none⟩) (b := ⟨y, 1, none⟩) (v := v) (h := by simp)).trans ((World.cell?_of_block (a := ⟨y, 1, none⟩) hb).trans h.left)
  · intro k; simp only [World.frozen?_setCell]; exact (World.frozen?_of_block (a := ⟨y, k, none⟩) hb).trans (h.free k)
  · exact World.cell?_setCell_same (w := W) (a := ⟨y, 2, none⟩) (h := (World.cell?_of_block (a := ⟨y, 2, none⟩) hb).trans e1) ..
  · refine ((OwnK.kept (w' := W.setCell ⟨y, 2, none⟩ v) hO (row := some y) ⟨rfl, rfl, rfl, by simp, fun k _ hk => heap_setCell_other W ⟨y, 2, none⟩ k v (fun e => hk (by rw [e]))⟩ (.inr (by rw [hob]; simpa using hgy)) fun k hk => ⟨by have := hk.1; omega, fun e => hk.2 (by simp only [Option.some.injEq] at e; rw [← e]; exact h.own)⟩).mono fun k hk => ⟨by have := hk.1; simp; omega, ?_⟩).base' (Nat.zero_le _)
    rintro (h' | h')
    · exact hk.2 h'
    · have := hk.1; omega
  · rcases hfew with h' | ⟨f0, hf0⟩
    · have := length_putF_le p.1 p.2 F; omega
    · rw [length_putF_there h.up hf0]; exact h.few
theorem box_row {α : Type} {R : Rep α} {w : World} {K : Nat → Prop} {x : α} {d : List Value} (h : R.rel w K x d) (hK : ∀ k, K k → k < w.heap.size) (t : TypeId) : ∃ cs, Rows R (w.alloc (.cells d.toArray t)) K [x] cs ∧ RV (w.alloc (.cells d.toArray t)) (some ⟨w.heap.size, 0, none⟩) cs := by
  have hE : Ext w (w.alloc (.cells d.toArray t)) := (Below.refl _ _).alloc (Nat.le_refl _) _
  refine ⟨d, Rows.single (R.ext h fun k hk => hE.block k (hK k hk)), .inr ⟨w.heap.size, 0, rfl, fun j v hv => ?_⟩⟩
  rw [cell_of_row _ _ _ _ _ _ (heap_alloc_last w _), Nat.zero_add]
  simpa using hv
theorem length_putGo_le (p : List UInt8 × File) : ∀ (b : Bool) (F : Files), (putGo p b F).length ≤ F.length + 1
  | true, [] => by simp [putGo]
  | false, [] => by simp [putGo]
  | true, x :: r => by
    have := length_putGo_le p true r
    rw [putGo_true] at this ⊢
    have := length_delF_le p.1 (x :: r)
    omega
  | false, x :: r => by
    have h1 := length_putGo_le p false r
    have h2 : (putGo p true r).length ≤ r.length := by rw [putGo_true]; exact length_delF_le _ _
    unfold putGo
    split
    · split <;> simp <;> omega
    · split <;> simp <;> omega
set_option maxRecDepth 100000 in
set_option maxHeartbeats 4000000 in
theorem put_ref {w : World} {S : Nat → Prop} {y g : Nat} {q l : Int} {F : Files} (h : RefIs w S y g q l F) (p : List UInt8 × File) (A : Option Addr) (c : Nat) (hrel : RFile.rel w (Imm w S) p [strV p.1, .slice A p.2.b.length c, .int .i64 (p.2.safe : Int)])
    (hok : p.2.b.length ≤ 65536 ∧ p.2.safe ≤ p.2.b.length) (hfew : F.length < 200 ∨ ∃ f0, atF F p.1 = some f0) :
    Calls Tryd.prog 54 #[.pointer (some ⟨y, 0, none⟩), .agg #[.string (str p.1), .slice A p.2.b.length c, .int .i64 (p.2.safe : Int)]] w fun e w' => e = .returned (.tuple #[]) ∧ ∃ S' g', RefIs w' S' y g' q l (putF p.1 p.2 F) ∧ RStep w w' S S' y g ∧ (g' = g ∨ w.heap.size ≤ g') := by
  have H := hid h
  have hfew200 := h.few
  obtain ⟨v, c2, hO, -⟩ := h.row
  have hylt := h.lt
  obtain ⟨n0, hn0⟩ : ∃ n0, n0 = p.2.b.length := ⟨_, rfl⟩
  rw [← hn0] at hrel ⊢
  obtain ⟨nm, hnm⟩ : ∃ nm, nm = p.1 := ⟨_, rfl⟩
  have Hnm := hid hnm
  rw [← hnm] at hrel ⊢
  have Hrel := hid hrel
  obtain ⟨A0, c0, cs, rfl, hc0, hcm0, -, -⟩ := hO.read
  obtain ⟨N, hN⟩ : ∃ N, N = F.length := ⟨_, rfl⟩
  rw [← hN] at c2 hfew200 hc0
  have HO : Hid (OwnK RFile 75 (Imm w S) w 0 (.slice A0 N c0) F) := by rw [hN]; exact hO
  have HN := hid hN
  have Hfew := hid hfew
  have Hok := hid hok
  have hst := str_toList
  have hbl := bytesLess_eq
  have E1 := hid (show Ext w (w.alloc (.cells #[.string (str nm), .slice A n0 c, .int .i64 (p.2.safe : Int)] 75)) from (Below.refl _ _).alloc (Nat.le_refl _) _)
  have hbox := heap_alloc_last w (.cells #[.string (str nm), .slice A n0 c, .int .i64 (p.2.safe : Int)] 75)
  have Hbox := hid hbox
  clear h hO hrel hn0 hnm hN hbox hfew hok
  go_enter Tryd.func54, Tryd.ntmps54
  go_wp2_with fail
  have hB1 : (w.alloc (.cells #[.string (str nm), .slice A n0 c, .int .i64 (p.2.safe : Int)] 75)).heap.size = w.heap.size + 1 := by simp
  generalize w.alloc (.cells #[.string (str nm), .slice A n0 c, .int .i64 (p.2.safe : Int)] 75) = W1 at E1 Hbox hB1 ⊢
  obtain ⟨B, hB⟩ : ∃ B, B = w.heap.size + 1 := ⟨_, rfl⟩
  have hBlt : w.heap.size < B := by omega
  rw [← hB] at hB1 ⊢
  have HB1 := hid hB1
  have hyB : y < B := by omega
  have HC : Hid (∀ wr : World, Below B W1 wr → wr.cell? ⟨y, 2, none⟩ = some (.slice A0 N c0) ∧ wr.cell? ⟨w.heap.size, 0, none⟩ = some (.string (str nm)) ∧ wr.cell? ⟨w.heap.size, 1, none⟩ = some (.slice A n0 c) ∧ wr.cell? ⟨w.heap.size, 2, none⟩ = some (.int .i64 (p.2.safe : Int))) := by
    intro wr hb
    have hbk := (hb.block w.heap.size hBlt).trans Hbox.out
    refine ⟨(hb.cell (p := ⟨y, 2, none⟩) hyB).trans (cell_below E1.out c2), ?_, ?_, ?_⟩ <;> rw [cell_of_row _ _ _ _ _ _ hbk] <;> rfl
  have HK : Hid (∀ k, Imm w S k → k < B) := fun k hk => by have := hk.1; omega
  have Hb0 : Hid (B ≤ W1.heap.size) := by rw [hB1]; exact Nat.le_refl _
  have hNle : N ≤ 200 := hfew200
  have HWsz := hid hB
  have HS0 : Hid (∀ wr : World, Below B W1 wr → ∀ k, Imm w S k → wr.heap[k]? = w.heap[k]?) := fun wr hb k hk => (hb.block k (by have := hk.1; omega)).trans (E1.out.block k hk.1)
  clear c2 hB hB1
  go_loopw [4, 5, 6] (fun v dn i wr => ∃ (k : Nat) (done : Bool) (acc : Files), k ≤ N ∧ acc.length ≤ k + done.toNat ∧ i = .int .i64 (k : Int) ∧ dn = .bool done ∧ Hid (OwnK RFile 75 (Imm w S) wr B v acc) ∧ Hid (Below B W1 wr) ∧ Hid (acc ++ putGo p done (F.drop k) = putGo p false F)) (fun _ _ i _ => N - (intOf i).toNat)
  case atStart =>
    refine ⟨0, false, [], by omega, by simp, rfl, rfl, ?_, ?_, rfl⟩
    · have := OwnK.empty (R := RFile) (e := 75) (K := Imm w S) W1 B Hb0.out
      rw [HB1.out] at this; exact this
    · exact (Below.refl _ _).alloc Hb0.out _
  case round =>
    obtain ⟨k, done, acc, hk, hacc, rfl, rfl, HA, HB, HG⟩ := hrel
    have hbl2 := HB.out.size
    rw [HB1.out] at hbl2
    by_cases hlt : k < N
    · have hkF : k < F.length := by have := HN.out; omega
      obtain ⟨g0, c1, e0, -, -, hg0, -, -, hcell⟩ := HO.out.at_ (by omega)
      simp only [Value.slice.injEq] at e0
      obtain ⟨rfl, -, rfl⟩ := e0
      obtain ⟨d, hd, hcc⟩ := hcell k hkF
      have Hd := hid hd
      obtain ⟨A1, c1, rfl, -⟩ := rfile_rel hd
      have hdrop := hid (List.drop_eq_getElem_cons hkF)
      generalize F[k] = x at hd Hd hcc hdrop
      obtain ⟨a, ha⟩ : ∃ a, a = x.1 := ⟨_, rfl⟩
      obtain ⟨n1, hn1⟩ : ∃ n1, n1 = x.2.b.length := ⟨_, rfl⟩
      rw [← ha, ← hn1] at hcc Hd
      have Ha := hid ha
      have HX : Hid (∀ wr : World, Below B W1 wr → wr.cell? ⟨g0, k * 3, none⟩ = some (.string (str a)) ∧ wr.cell? ⟨g0, k * 3 + 1, none⟩ = some (.slice A1 n1 c1) ∧ wr.cell? ⟨g0, k * 3 + 2, none⟩ = some (.int .i64 (x.2.safe : Int))) := by
        intro wr hb
        have hgB : g0 < B := by have := hg0; omega
        refine ⟨(hb.cell (p := ⟨g0, k * 3, none⟩) hgB).trans (cell_below E1.out (hcc 0 _ rfl)), (hb.cell (p := ⟨g0, k * 3 + 1, none⟩) hgB).trans (cell_below E1.out (hcc 1 _ rfl)), (hb.cell (p := ⟨g0, k * 3 + 2, none⟩) hgB).trans (cell_below E1.out (hcc 2 _ rfl))⟩
      have hlt' : (k : Int) < (N : Int) := by omega
      clear hd hcc hcell ha hn1 hg0
      rw [hdrop.out] at HG
      obtain ⟨c2, b0, b1, b2⟩ := HC.out _ HB.out
      have hacc2 : acc.length ≤ 201 := by have := Bool.toNat_le done; omega
      cases done
      · by_cases heq : a = nm
        · obtain rfl := heq.symm
          have hq1 : (nm == nm) = true := beq_self_eq_true nm
          have hb := bb_irrefl nm
          have HG2 := hid (show (acc ++ [p]) ++ putGo p true (F.drop (k + 1)) = putGo p false F by
            rw [← HG.out]
            conv => rhs; unfold putGo
            rw [if_pos (.inr (by rw [← Ha.out, ← Hnm.out])), if_pos (by rw [← Ha.out, ← Hnm.out])]
            simp)
          go_wp2_with fail
          apply wp_drawn [isV _, isV _, isV _, isV _, isV _, isV _, isV _, isV _, isV _, isV _, isV _, isV _, isV _, isV _, isV _] (by kernel_rfl)
          · kernel_rfl
          · refine ⟨?rcs0, ?rcs1, ?rcs2, ?rcs3, ?rcs4, ?rcs5, ?rcs6, ?rcs7, ?rcs8, ?rcs9, ?rcs10, ?rcs11, ?rcs12, ?rcs13, ?rcs14, trivial⟩
            case rcs0 =>
              intro v W hE hd; simp only [Region.wanted, ↓reduceIte]; (try simp [deps, waitsOn, Region.binds, knowing, isV, ownsV, anyV] at hd); simp only [putAll, List.take_succ_cons, List.take_zero, List.drop_succ_cons, List.drop_zero, Act.put, List.setIfInBounds_toArray, List.set_cons_zero, List.set_cons_succ, Nat.zero_add, Nat.reduceAdd]; go_simp; exact ⟨Below.refl _ _, rfl⟩
            case rcs1 =>
              intro v W hE hd; simp only [Region.wanted, ↓reduceIte]; (try simp [deps, waitsOn, Region.binds, knowing, isV, ownsV, anyV] at hd); simp only [putAll, List.take_succ_cons, List.take_zero, List.drop_succ_cons, List.drop_zero, Act.put, List.setIfInBounds_toArray, List.set_cons_zero, List.set_cons_succ, Nat.zero_add, Nat.reduceAdd]; go_simp; exact ⟨Below.refl _ _, rfl⟩
            case rcs2 =>
              intro v W hE hd; simp only [Region.wanted, ↓reduceIte]; (try simp [deps, waitsOn, Region.binds, knowing, isV, ownsV, anyV] at hd); simp only [putAll, List.take_succ_cons, List.take_zero, List.drop_succ_cons, List.drop_zero, Act.put, List.setIfInBounds_toArray, List.set_cons_zero, List.set_cons_succ, Nat.zero_add, Nat.reduceAdd]; go_simp; exact ⟨Below.refl _ _, rfl⟩
            case rcs3 =>
              intro v W hE hd; (try simp [deps, waitsOn, Region.binds, knowing, isV, ownsV, anyV] at hd); simp only [putAll, List.take_succ_cons, List.take_zero, List.drop_succ_cons, List.drop_zero, Act.put, List.setIfInBounds_toArray, List.set_cons_zero, List.set_cons_succ, Nat.zero_add, Nat.reduceAdd]; rw [if_pos (by simp [Region.wanted, yielded, hd])]; go_simp; exact ⟨Below.refl _ _, rfl⟩
            case rcs4 =>
              intro v W hE hd; (try simp [deps, waitsOn, Region.binds, knowing, isV, ownsV, anyV] at hd); simp only [putAll, List.take_succ_cons, List.take_zero, List.drop_succ_cons, List.drop_zero, Act.put, List.setIfInBounds_toArray, List.set_cons_zero, List.set_cons_succ, Nat.zero_add, Nat.reduceAdd]; rw [if_pos (by simp [Region.wanted, yielded, hd])]
              have e1 := cell_below hE b0
              go_simp
              exact ⟨Below.refl _ _, rfl⟩
            case rcs5 =>
              intro v W hE hd; (try simp [deps, waitsOn, Region.binds, knowing, isV, ownsV, anyV] at hd); simp only [putAll, List.take_succ_cons, List.take_zero, List.drop_succ_cons, List.drop_zero, Act.put, List.setIfInBounds_toArray, List.set_cons_zero, List.set_cons_succ, Nat.zero_add, Nat.reduceAdd]; rw [if_pos (by simp [Region.wanted, yielded, hd])]; go_simp; exact ⟨Below.refl _ _, rfl⟩
            case rcs6 =>
              intro v W hE hd; (try simp [deps, waitsOn, Region.binds, knowing, isV, ownsV, anyV] at hd); simp only [putAll, List.take_succ_cons, List.take_zero, List.drop_succ_cons, List.drop_zero, Act.put, List.setIfInBounds_toArray, List.set_cons_zero, List.set_cons_succ, Nat.zero_add, Nat.reduceAdd]; rw [if_pos (by simp [Region.wanted, yielded, hd])]; go_simp; exact ⟨Below.refl _ _, rfl⟩
            case rcs7 =>
              intro v W hE hd; (try simp [deps, waitsOn, Region.binds, knowing, isV, ownsV, anyV] at hd); simp only [putAll, List.take_succ_cons, List.take_zero, List.drop_succ_cons, List.drop_zero, Act.put, List.setIfInBounds_toArray, List.set_cons_zero, List.set_cons_succ, Nat.zero_add, Nat.reduceAdd]; rw [if_pos (by simp [Region.wanted, yielded, hd])]; go_simp; exact ⟨Below.refl _ _, rfl⟩
            case rcs8 =>
              intro v W hE hd; (try simp [deps, waitsOn, Region.binds, knowing, isV, ownsV, anyV] at hd); simp only [putAll, List.take_succ_cons, List.take_zero, List.drop_succ_cons, List.drop_zero, Act.put, List.setIfInBounds_toArray, List.set_cons_zero, List.set_cons_succ, Nat.zero_add, Nat.reduceAdd]; rw [if_pos (by simp [Region.wanted, yielded, hd])]
              have e1 := cell_below hE c2
              go_simp
              exact ⟨Below.refl _ _, rfl⟩
            case rcs9 =>
              intro v W hE hd; (try simp [deps, waitsOn, Region.binds, knowing, isV, ownsV, anyV] at hd); simp only [putAll, List.take_succ_cons, List.take_zero, List.drop_succ_cons, List.drop_zero, Act.put, List.setIfInBounds_toArray, List.set_cons_zero, List.set_cons_succ, Nat.zero_add, Nat.reduceAdd]; rw [if_pos (by simp [Region.wanted, yielded, hd])]; go_simp; exact ⟨Below.refl _ _, rfl⟩
            case rcs10 =>
              intro v W hE hd; (try simp [deps, waitsOn, Region.binds, knowing, isV, ownsV, anyV] at hd); simp only [putAll, List.take_succ_cons, List.take_zero, List.drop_succ_cons, List.drop_zero, Act.put, List.setIfInBounds_toArray, List.set_cons_zero, List.set_cons_succ, Nat.zero_add, Nat.reduceAdd]; rw [if_pos (by simp [Region.wanted, yielded, hd])]; go_simp; exact ⟨Below.refl _ _, rfl⟩
            case rcs11 =>
              intro v W hE hd; (try simp [deps, waitsOn, Region.binds, knowing, isV, ownsV, anyV] at hd); simp only [putAll, List.take_succ_cons, List.take_zero, List.drop_succ_cons, List.drop_zero, Act.put, List.setIfInBounds_toArray, List.set_cons_zero, List.set_cons_succ, Nat.zero_add, Nat.reduceAdd]; rw [if_pos (by simp [Region.wanted, yielded, hd])]; go_simp; exact ⟨Below.refl _ _, rfl⟩
            case rcs12 =>
              intro v W hE hd; (try simp [deps, waitsOn, Region.binds, knowing, isV, ownsV, anyV] at hd); simp only [putAll, List.take_succ_cons, List.take_zero, List.drop_succ_cons, List.drop_zero, Act.put, List.setIfInBounds_toArray, List.set_cons_zero, List.set_cons_succ, Nat.zero_add, Nat.reduceAdd]; rw [if_pos (by simp [Region.wanted, yielded, hd])]
              have e1 := cell_below hE (HX.out _ HB.out).1
              go_simp
              exact ⟨Below.refl _ _, rfl⟩
            case rcs13 =>
              intro v W hE hd; (try simp [deps, waitsOn, Region.binds, knowing, isV, ownsV, anyV] at hd); simp only [putAll, List.take_succ_cons, List.take_zero, List.drop_succ_cons, List.drop_zero, Act.put, List.setIfInBounds_toArray, List.set_cons_zero, List.set_cons_succ, Nat.zero_add, Nat.reduceAdd]; rw [if_pos (by simp [Region.wanted, yielded, hd])]; go_simp; exact ⟨Below.refl _ _, rfl⟩
            case rcs14 =>
              intro v W hE hd; simp only [Region.wanted, ↓reduceIte]; (try simp [deps, waitsOn, Region.binds, knowing, isV, ownsV, anyV] at hd); simp only [putAll, List.take_succ_cons, List.take_zero, List.drop_succ_cons, List.drop_zero, Act.put, List.setIfInBounds_toArray, List.set_cons_zero, List.set_cons_succ, Nat.zero_add, Nat.reduceAdd]; go_simp; exact ⟨Below.refl _ _, rfl⟩
          · rintro v W hE ⟨-, -, -, -, -, -, -, -, -, -, -, -, -, -, e14, -⟩
            have e14 := (show v 14 = _ from e14)
            simp only [putAll, List.take_succ_cons, List.take_zero, List.drop_succ_cons, List.drop_zero, Act.put, List.setIfInBounds_toArray, List.set_cons_zero, List.set_cons_succ, Nat.zero_add, Nat.reduceAdd]
            rw [e14]
            have HB5 := hid (below_then HB.out (by rw [← HB1.out]; exact HB.out.size) hE)
            have HA5 := hid (HA.out.ext hE fun k hk => Nat.lt_of_lt_of_le (HK.out k hk) (by rw [← HB1.out]; exact HB.out.size))
            clear HB HA
            have HB := HB5; have HA := HA5
            clear HB5 HA5 hE c2 b0 b1 b2
            obtain ⟨c2, b0, b1, b2⟩ := HC.out _ HB.out
            have hbl2 := HB.out.size
            rw [HB1.out] at hbl2
            clear e14
            -- p is appended
            have Hbx := hid (box_row (d := [.string (str nm), .slice A n0 c, .int .i64 (p.2.safe : Int)]) (RFile.ext Hrel.out (HS0.out _ HB.out)) (fun k hk => Nat.lt_of_lt_of_le (HK.out k hk) hbl2) 75)
            have HAb := hid (HA.out.ext ((Below.refl _ _).alloc (Nat.le_refl _) (.cells #[.string (str nm), .slice A n0 c, .int .i64 (p.2.safe : Int)] 75)) fun k hk => Nat.lt_of_lt_of_le (HK.out k hk) hbl2)
            have HBb := hid (HB.out.alloc hbl2 (.cells #[.string (str nm), .slice A n0 c, .int .i64 (p.2.safe : Int)] 75))
            go_wp2_with (at_builtin; refine wpList_appK (w0 := W1) (R := RFile) (xs := acc) (base := B) finfo rfl (.tmp 32) (.tmp 34) rfl rfl HAb HK HBb (by simp; omega) (some ⟨W.heap.size, 0, none⟩) 1 1 [p] rfl rfl Hbx (by omega) (by omega) ?_; intro v2 W2 HA2 HB2 _)
            clear Hbx HAb HBb
            clear HA HB c2 b0 b1 b2
            have HA := HA2; have HB := HB2
            clear HA2 HB2 hbl2
            obtain ⟨c2, b0, b1, b2⟩ := HC.out _ HB.out
            have hbl2 := HB.out.size
            rw [HB1.out] at hbl2
            apply wp_drawn [isV _, isV _, isV _, isV _, isV _, isV _, isV _, isV _, isV _, isV _, isV _] (by kernel_rfl)
            · kernel_rfl
            · refine ⟨?rfs0, ?rfs1, ?rfs2, ?rfs3, ?rfs4, ?rfs5, ?rfs6, ?rfs7, ?rfs8, ?rfs9, ?rfs10, trivial⟩
              case rfs0 =>
                intro v W hE hd; simp only [Region.wanted, ↓reduceIte]; (try simp [deps, waitsOn, Region.binds, knowing, isV, ownsV, anyV] at hd); simp only [putAll, List.take_succ_cons, List.take_zero, List.drop_succ_cons, List.drop_zero, Act.put, List.setIfInBounds_toArray, List.set_cons_zero, List.set_cons_succ, Nat.zero_add, Nat.reduceAdd]; go_simp; exact ⟨Below.refl _ _, rfl⟩
              case rfs1 =>
                intro v W hE hd; simp only [Region.wanted, ↓reduceIte]; (try simp [deps, waitsOn, Region.binds, knowing, isV, ownsV, anyV] at hd); simp only [putAll, List.take_succ_cons, List.take_zero, List.drop_succ_cons, List.drop_zero, Act.put, List.setIfInBounds_toArray, List.set_cons_zero, List.set_cons_succ, Nat.zero_add, Nat.reduceAdd]; go_simp; exact ⟨Below.refl _ _, rfl⟩
              case rfs2 =>
                intro v W hE hd; simp only [Region.wanted, ↓reduceIte]; (try simp [deps, waitsOn, Region.binds, knowing, isV, ownsV, anyV] at hd); simp only [putAll, List.take_succ_cons, List.take_zero, List.drop_succ_cons, List.drop_zero, Act.put, List.setIfInBounds_toArray, List.set_cons_zero, List.set_cons_succ, Nat.zero_add, Nat.reduceAdd]; go_simp; exact ⟨Below.refl _ _, rfl⟩
              case rfs3 =>
                intro v W hE hd; simp only [Region.wanted, ↓reduceIte]; (try simp [deps, waitsOn, Region.binds, knowing, isV, ownsV, anyV] at hd); simp only [putAll, List.take_succ_cons, List.take_zero, List.drop_succ_cons, List.drop_zero, Act.put, List.setIfInBounds_toArray, List.set_cons_zero, List.set_cons_succ, Nat.zero_add, Nat.reduceAdd]
                have e1 := cell_below hE c2
                go_simp
                exact ⟨Below.refl _ _, rfl⟩
              case rfs4 =>
                intro v W hE hd; simp only [Region.wanted, ↓reduceIte]; (try simp [deps, waitsOn, Region.binds, knowing, isV, ownsV, anyV] at hd); simp only [putAll, List.take_succ_cons, List.take_zero, List.drop_succ_cons, List.drop_zero, Act.put, List.setIfInBounds_toArray, List.set_cons_zero, List.set_cons_succ, Nat.zero_add, Nat.reduceAdd]; go_simp; exact ⟨Below.refl _ _, rfl⟩
              case rfs5 =>
                intro v W hE hd; simp only [Region.wanted, ↓reduceIte]; (try simp [deps, waitsOn, Region.binds, knowing, isV, ownsV, anyV] at hd); simp only [putAll, List.take_succ_cons, List.take_zero, List.drop_succ_cons, List.drop_zero, Act.put, List.setIfInBounds_toArray, List.set_cons_zero, List.set_cons_succ, Nat.zero_add, Nat.reduceAdd]; go_simp; exact ⟨Below.refl _ _, rfl⟩
              case rfs6 =>
                intro v W hE hd; simp only [Region.wanted, ↓reduceIte]; (try simp [deps, waitsOn, Region.binds, knowing, isV, ownsV, anyV] at hd); simp only [putAll, List.take_succ_cons, List.take_zero, List.drop_succ_cons, List.drop_zero, Act.put, List.setIfInBounds_toArray, List.set_cons_zero, List.set_cons_succ, Nat.zero_add, Nat.reduceAdd]; go_simp; exact ⟨Below.refl _ _, rfl⟩
              case rfs7 =>
                intro v W hE hd; simp only [Region.wanted, ↓reduceIte]; (try simp [deps, waitsOn, Region.binds, knowing, isV, ownsV, anyV] at hd); simp only [putAll, List.take_succ_cons, List.take_zero, List.drop_succ_cons, List.drop_zero, Act.put, List.setIfInBounds_toArray, List.set_cons_zero, List.set_cons_succ, Nat.zero_add, Nat.reduceAdd]
                have e1 := cell_below hE (HX.out _ HB.out).1
                go_simp
                exact ⟨Below.refl _ _, rfl⟩
              case rfs8 =>
                intro v W hE hd; simp only [Region.wanted, ↓reduceIte]; (try simp [deps, waitsOn, Region.binds, knowing, isV, ownsV, anyV] at hd); simp only [putAll, List.take_succ_cons, List.take_zero, List.drop_succ_cons, List.drop_zero, Act.put, List.setIfInBounds_toArray, List.set_cons_zero, List.set_cons_succ, Nat.zero_add, Nat.reduceAdd]; go_simp; exact ⟨Below.refl _ _, rfl⟩
              case rfs9 =>
                intro v W hE hd; simp only [Region.wanted, ↓reduceIte]; (try simp [deps, waitsOn, Region.binds, knowing, isV, ownsV, anyV] at hd); simp only [putAll, List.take_succ_cons, List.take_zero, List.drop_succ_cons, List.drop_zero, Act.put, List.setIfInBounds_toArray, List.set_cons_zero, List.set_cons_succ, Nat.zero_add, Nat.reduceAdd]
                have e1 := cell_below hE b0
                go_simp
                exact ⟨Below.refl _ _, rfl⟩
              case rfs10 =>
                intro v W hE hd; simp only [Region.wanted, ↓reduceIte]; (try simp [deps, waitsOn, Region.binds, knowing, isV, ownsV, anyV] at hd); simp only [putAll, List.take_succ_cons, List.take_zero, List.drop_succ_cons, List.drop_zero, Act.put, List.setIfInBounds_toArray, List.set_cons_zero, List.set_cons_succ, Nat.zero_add, Nat.reduceAdd]; go_simp; exact ⟨Below.refl _ _, rfl⟩
            · rintro v W hE ⟨-, -, -, -, -, -, -, -, -, -, e10, -⟩
              have e10 := (show v 10 = _ from e10)
              simp only [putAll, List.take_succ_cons, List.take_zero, List.drop_succ_cons, List.drop_zero, Act.put, List.setIfInBounds_toArray, List.set_cons_zero, List.set_cons_succ, Nat.zero_add, Nat.reduceAdd]
              rw [e10]
              have HB5 := hid (below_then HB.out (by rw [← HB1.out]; exact HB.out.size) hE)
              have HA5 := hid (HA.out.ext hE fun k hk => Nat.lt_of_lt_of_le (HK.out k hk) (by rw [← HB1.out]; exact HB.out.size))
              clear HB HA
              have HB := HB5; have HA := HA5
              clear HB5 HA5 hE c2 b0 b1 b2
              obtain ⟨c2, b0, b1, b2⟩ := HC.out _ HB.out
              have hbl2 := HB.out.size
              rw [HB1.out] at hbl2
              clear e10
              go_wp2_with fail
              go_roundw
              case rel => exact ⟨k + 1, true, _, by omega, by simp at hacc ⊢; omega, by go_num, rfl, HA, HB, HG2⟩
              case measure => simp [intOf]; omega
        · have Hne := hid heq
          have hq1 : (a == nm) = false := beq_eq_false_iff_ne.2 heq
          have hq2 : (nm == a) = false := beq_eq_false_iff_ne.2 fun e => heq e.symm
          clear heq
          cases hb : bytesBefore nm a
          · have HG2 := hid (show (acc ++ [x]) ++ putGo p false (F.drop (k + 1)) = putGo p false F by
              rw [← HG.out]
              conv => rhs; unfold putGo
              rw [if_neg (by rw [← Ha.out, ← Hnm.out, hb]; rintro (h | h); cases h; exact Hne.out h.symm), if_neg (by rw [← Ha.out, ← Hnm.out]; exact Hne.out)]
              simp)
            go_wp2_with fail
            apply wp_drawn [isV _, isV _, isV _, isV _, isV _, isV _, isV _, isV _, isV _, isV _, isV _, isV _, isV _, isV _, isV _] (by kernel_rfl)
            · kernel_rfl
            · refine ⟨?ras0, ?ras1, ?ras2, ?ras3, ?ras4, ?ras5, ?ras6, ?ras7, ?ras8, ?ras9, ?ras10, ?ras11, ?ras12, ?ras13, ?ras14, trivial⟩
              case ras0 =>
                intro v W hE hd; simp only [Region.wanted, ↓reduceIte]; (try simp [deps, waitsOn, Region.binds, knowing, isV, ownsV, anyV] at hd); simp only [putAll, List.take_succ_cons, List.take_zero, List.drop_succ_cons, List.drop_zero, Act.put, List.setIfInBounds_toArray, List.set_cons_zero, List.set_cons_succ, Nat.zero_add, Nat.reduceAdd]; go_simp; exact ⟨Below.refl _ _, rfl⟩
              case ras1 =>
                intro v W hE hd; simp only [Region.wanted, ↓reduceIte]; (try simp [deps, waitsOn, Region.binds, knowing, isV, ownsV, anyV] at hd); simp only [putAll, List.take_succ_cons, List.take_zero, List.drop_succ_cons, List.drop_zero, Act.put, List.setIfInBounds_toArray, List.set_cons_zero, List.set_cons_succ, Nat.zero_add, Nat.reduceAdd]; go_simp; exact ⟨Below.refl _ _, rfl⟩
              case ras2 =>
                intro v W hE hd; simp only [Region.wanted, ↓reduceIte]; (try simp [deps, waitsOn, Region.binds, knowing, isV, ownsV, anyV] at hd); simp only [putAll, List.take_succ_cons, List.take_zero, List.drop_succ_cons, List.drop_zero, Act.put, List.setIfInBounds_toArray, List.set_cons_zero, List.set_cons_succ, Nat.zero_add, Nat.reduceAdd]; go_simp; exact ⟨Below.refl _ _, rfl⟩
              case ras3 =>
                intro v W hE hd; (try simp [deps, waitsOn, Region.binds, knowing, isV, ownsV, anyV] at hd); simp only [putAll, List.take_succ_cons, List.take_zero, List.drop_succ_cons, List.drop_zero, Act.put, List.setIfInBounds_toArray, List.set_cons_zero, List.set_cons_succ, Nat.zero_add, Nat.reduceAdd]; rw [if_pos (by simp [Region.wanted, yielded, hd])]; go_simp; exact ⟨Below.refl _ _, rfl⟩
              case ras4 =>
                intro v W hE hd; (try simp [deps, waitsOn, Region.binds, knowing, isV, ownsV, anyV] at hd); simp only [putAll, List.take_succ_cons, List.take_zero, List.drop_succ_cons, List.drop_zero, Act.put, List.setIfInBounds_toArray, List.set_cons_zero, List.set_cons_succ, Nat.zero_add, Nat.reduceAdd]; rw [if_pos (by simp [Region.wanted, yielded, hd])]
                have e1 := cell_below hE b0
                go_simp
                exact ⟨Below.refl _ _, rfl⟩
              case ras5 =>
                intro v W hE hd; (try simp [deps, waitsOn, Region.binds, knowing, isV, ownsV, anyV] at hd); simp only [putAll, List.take_succ_cons, List.take_zero, List.drop_succ_cons, List.drop_zero, Act.put, List.setIfInBounds_toArray, List.set_cons_zero, List.set_cons_succ, Nat.zero_add, Nat.reduceAdd]; rw [if_pos (by simp [Region.wanted, yielded, hd])]; go_simp; exact ⟨Below.refl _ _, rfl⟩
              case ras6 =>
                intro v W hE hd; (try simp [deps, waitsOn, Region.binds, knowing, isV, ownsV, anyV] at hd); simp only [putAll, List.take_succ_cons, List.take_zero, List.drop_succ_cons, List.drop_zero, Act.put, List.setIfInBounds_toArray, List.set_cons_zero, List.set_cons_succ, Nat.zero_add, Nat.reduceAdd]; rw [if_pos (by simp [Region.wanted, yielded, hd])]; go_simp; exact ⟨Below.refl _ _, rfl⟩
              case ras7 =>
                intro v W hE hd; (try simp [deps, waitsOn, Region.binds, knowing, isV, ownsV, anyV] at hd); simp only [putAll, List.take_succ_cons, List.take_zero, List.drop_succ_cons, List.drop_zero, Act.put, List.setIfInBounds_toArray, List.set_cons_zero, List.set_cons_succ, Nat.zero_add, Nat.reduceAdd]; rw [if_pos (by simp [Region.wanted, yielded, hd])]; go_simp; exact ⟨Below.refl _ _, rfl⟩
              case ras8 =>
                intro v W hE hd; (try simp [deps, waitsOn, Region.binds, knowing, isV, ownsV, anyV] at hd); simp only [putAll, List.take_succ_cons, List.take_zero, List.drop_succ_cons, List.drop_zero, Act.put, List.setIfInBounds_toArray, List.set_cons_zero, List.set_cons_succ, Nat.zero_add, Nat.reduceAdd]; rw [if_pos (by simp [Region.wanted, yielded, hd])]
                have e1 := cell_below hE c2
                go_simp
                exact ⟨Below.refl _ _, rfl⟩
              case ras9 =>
                intro v W hE hd; (try simp [deps, waitsOn, Region.binds, knowing, isV, ownsV, anyV] at hd); simp only [putAll, List.take_succ_cons, List.take_zero, List.drop_succ_cons, List.drop_zero, Act.put, List.setIfInBounds_toArray, List.set_cons_zero, List.set_cons_succ, Nat.zero_add, Nat.reduceAdd]; rw [if_pos (by simp [Region.wanted, yielded, hd])]; go_simp; exact ⟨Below.refl _ _, rfl⟩
              case ras10 =>
                intro v W hE hd; (try simp [deps, waitsOn, Region.binds, knowing, isV, ownsV, anyV] at hd); simp only [putAll, List.take_succ_cons, List.take_zero, List.drop_succ_cons, List.drop_zero, Act.put, List.setIfInBounds_toArray, List.set_cons_zero, List.set_cons_succ, Nat.zero_add, Nat.reduceAdd]; rw [if_pos (by simp [Region.wanted, yielded, hd])]; go_simp; exact ⟨Below.refl _ _, rfl⟩
              case ras11 =>
                intro v W hE hd; (try simp [deps, waitsOn, Region.binds, knowing, isV, ownsV, anyV] at hd); simp only [putAll, List.take_succ_cons, List.take_zero, List.drop_succ_cons, List.drop_zero, Act.put, List.setIfInBounds_toArray, List.set_cons_zero, List.set_cons_succ, Nat.zero_add, Nat.reduceAdd]; rw [if_pos (by simp [Region.wanted, yielded, hd])]; go_simp; exact ⟨Below.refl _ _, rfl⟩
              case ras12 =>
                intro v W hE hd; (try simp [deps, waitsOn, Region.binds, knowing, isV, ownsV, anyV] at hd); simp only [putAll, List.take_succ_cons, List.take_zero, List.drop_succ_cons, List.drop_zero, Act.put, List.setIfInBounds_toArray, List.set_cons_zero, List.set_cons_succ, Nat.zero_add, Nat.reduceAdd]; rw [if_pos (by simp [Region.wanted, yielded, hd])]
                have e1 := cell_below hE (HX.out _ HB.out).1
                go_simp
                exact ⟨Below.refl _ _, rfl⟩
              case ras13 =>
                intro v W hE hd; (try simp [deps, waitsOn, Region.binds, knowing, isV, ownsV, anyV] at hd); simp only [putAll, List.take_succ_cons, List.take_zero, List.drop_succ_cons, List.drop_zero, Act.put, List.setIfInBounds_toArray, List.set_cons_zero, List.set_cons_succ, Nat.zero_add, Nat.reduceAdd]; rw [if_pos (by simp [Region.wanted, yielded, hd])]; go_simp; exact ⟨Below.refl _ _, rfl⟩
              case ras14 =>
                intro v W hE hd; simp only [Region.wanted, ↓reduceIte]; (try simp [deps, waitsOn, Region.binds, knowing, isV, ownsV, anyV] at hd); simp only [putAll, List.take_succ_cons, List.take_zero, List.drop_succ_cons, List.drop_zero, Act.put, List.setIfInBounds_toArray, List.set_cons_zero, List.set_cons_succ, Nat.zero_add, Nat.reduceAdd]; go_simp; exact ⟨Below.refl _ _, rfl⟩
            · rintro v W hE ⟨-, -, -, -, -, -, -, -, -, -, -, -, -, -, e14, -⟩
              have e14 := (show v 14 = _ from e14)
              simp only [putAll, List.take_succ_cons, List.take_zero, List.drop_succ_cons, List.drop_zero, Act.put, List.setIfInBounds_toArray, List.set_cons_zero, List.set_cons_succ, Nat.zero_add, Nat.reduceAdd]
              rw [e14]
              have HB5 := hid (below_then HB.out (by rw [← HB1.out]; exact HB.out.size) hE)
              have HA5 := hid (HA.out.ext hE fun k hk => Nat.lt_of_lt_of_le (HK.out k hk) (by rw [← HB1.out]; exact HB.out.size))
              clear HB HA
              have HB := HB5; have HA := HA5
              clear HB5 HA5 hE c2 b0 b1 b2
              obtain ⟨c2, b0, b1, b2⟩ := HC.out _ HB.out
              have hbl2 := HB.out.size
              rw [HB1.out] at hbl2
              clear e14
              go_wp2_with fail
              apply wp_drawn [isV _, isV _, isV _, isV _, isV _, isV _, isV _, isV _, isV _, isV _, isV _] (by kernel_rfl)
              · kernel_rfl
              · refine ⟨?rbs0, ?rbs1, ?rbs2, ?rbs3, ?rbs4, ?rbs5, ?rbs6, ?rbs7, ?rbs8, ?rbs9, ?rbs10, trivial⟩
                case rbs0 =>
                  intro v W hE hd; simp only [Region.wanted, ↓reduceIte]; (try simp [deps, waitsOn, Region.binds, knowing, isV, ownsV, anyV] at hd); simp only [putAll, List.take_succ_cons, List.take_zero, List.drop_succ_cons, List.drop_zero, Act.put, List.setIfInBounds_toArray, List.set_cons_zero, List.set_cons_succ, Nat.zero_add, Nat.reduceAdd]; go_simp; exact ⟨Below.refl _ _, rfl⟩
                case rbs1 =>
                  intro v W hE hd; simp only [Region.wanted, ↓reduceIte]; (try simp [deps, waitsOn, Region.binds, knowing, isV, ownsV, anyV] at hd); simp only [putAll, List.take_succ_cons, List.take_zero, List.drop_succ_cons, List.drop_zero, Act.put, List.setIfInBounds_toArray, List.set_cons_zero, List.set_cons_succ, Nat.zero_add, Nat.reduceAdd]; go_simp; exact ⟨Below.refl _ _, rfl⟩
                case rbs2 =>
                  intro v W hE hd; simp only [Region.wanted, ↓reduceIte]; (try simp [deps, waitsOn, Region.binds, knowing, isV, ownsV, anyV] at hd); simp only [putAll, List.take_succ_cons, List.take_zero, List.drop_succ_cons, List.drop_zero, Act.put, List.setIfInBounds_toArray, List.set_cons_zero, List.set_cons_succ, Nat.zero_add, Nat.reduceAdd]; go_simp; exact ⟨Below.refl _ _, rfl⟩
                case rbs3 =>
                  intro v W hE hd; simp only [Region.wanted, ↓reduceIte]; (try simp [deps, waitsOn, Region.binds, knowing, isV, ownsV, anyV] at hd); simp only [putAll, List.take_succ_cons, List.take_zero, List.drop_succ_cons, List.drop_zero, Act.put, List.setIfInBounds_toArray, List.set_cons_zero, List.set_cons_succ, Nat.zero_add, Nat.reduceAdd]
                  have e1 := cell_below hE c2
                  go_simp
                  exact ⟨Below.refl _ _, rfl⟩
                case rbs4 =>
                  intro v W hE hd; simp only [Region.wanted, ↓reduceIte]; (try simp [deps, waitsOn, Region.binds, knowing, isV, ownsV, anyV] at hd); simp only [putAll, List.take_succ_cons, List.take_zero, List.drop_succ_cons, List.drop_zero, Act.put, List.setIfInBounds_toArray, List.set_cons_zero, List.set_cons_succ, Nat.zero_add, Nat.reduceAdd]; go_simp; exact ⟨Below.refl _ _, rfl⟩
                case rbs5 =>
                  intro v W hE hd; simp only [Region.wanted, ↓reduceIte]; (try simp [deps, waitsOn, Region.binds, knowing, isV, ownsV, anyV] at hd); simp only [putAll, List.take_succ_cons, List.take_zero, List.drop_succ_cons, List.drop_zero, Act.put, List.setIfInBounds_toArray, List.set_cons_zero, List.set_cons_succ, Nat.zero_add, Nat.reduceAdd]; go_simp; exact ⟨Below.refl _ _, rfl⟩
                case rbs6 =>
                  intro v W hE hd; simp only [Region.wanted, ↓reduceIte]; (try simp [deps, waitsOn, Region.binds, knowing, isV, ownsV, anyV] at hd); simp only [putAll, List.take_succ_cons, List.take_zero, List.drop_succ_cons, List.drop_zero, Act.put, List.setIfInBounds_toArray, List.set_cons_zero, List.set_cons_succ, Nat.zero_add, Nat.reduceAdd]; go_simp; exact ⟨Below.refl _ _, rfl⟩
                case rbs7 =>
                  intro v W hE hd; simp only [Region.wanted, ↓reduceIte]; (try simp [deps, waitsOn, Region.binds, knowing, isV, ownsV, anyV] at hd); simp only [putAll, List.take_succ_cons, List.take_zero, List.drop_succ_cons, List.drop_zero, Act.put, List.setIfInBounds_toArray, List.set_cons_zero, List.set_cons_succ, Nat.zero_add, Nat.reduceAdd]
                  have e1 := cell_below hE (HX.out _ HB.out).1
                  go_simp
                  exact ⟨Below.refl _ _, rfl⟩
                case rbs8 =>
                  intro v W hE hd; simp only [Region.wanted, ↓reduceIte]; (try simp [deps, waitsOn, Region.binds, knowing, isV, ownsV, anyV] at hd); simp only [putAll, List.take_succ_cons, List.take_zero, List.drop_succ_cons, List.drop_zero, Act.put, List.setIfInBounds_toArray, List.set_cons_zero, List.set_cons_succ, Nat.zero_add, Nat.reduceAdd]; go_simp; exact ⟨Below.refl _ _, rfl⟩
                case rbs9 =>
                  intro v W hE hd; simp only [Region.wanted, ↓reduceIte]; (try simp [deps, waitsOn, Region.binds, knowing, isV, ownsV, anyV] at hd); simp only [putAll, List.take_succ_cons, List.take_zero, List.drop_succ_cons, List.drop_zero, Act.put, List.setIfInBounds_toArray, List.set_cons_zero, List.set_cons_succ, Nat.zero_add, Nat.reduceAdd]
                  have e1 := cell_below hE b0
                  go_simp
                  exact ⟨Below.refl _ _, rfl⟩
                case rbs10 =>
                  intro v W hE hd; simp only [Region.wanted, ↓reduceIte]; (try simp [deps, waitsOn, Region.binds, knowing, isV, ownsV, anyV] at hd); simp only [putAll, List.take_succ_cons, List.take_zero, List.drop_succ_cons, List.drop_zero, Act.put, List.setIfInBounds_toArray, List.set_cons_zero, List.set_cons_succ, Nat.zero_add, Nat.reduceAdd]; go_simp; exact ⟨Below.refl _ _, rfl⟩
              · rintro v W hE ⟨-, -, -, -, -, -, -, -, -, -, e10, -⟩
                have e10 := (show v 10 = _ from e10)
                simp only [putAll, List.take_succ_cons, List.take_zero, List.drop_succ_cons, List.drop_zero, Act.put, List.setIfInBounds_toArray, List.set_cons_zero, List.set_cons_succ, Nat.zero_add, Nat.reduceAdd]
                rw [e10]
                have HB5 := hid (below_then HB.out (by rw [← HB1.out]; exact HB.out.size) hE)
                have HA5 := hid (HA.out.ext hE fun k hk => Nat.lt_of_lt_of_le (HK.out k hk) (by rw [← HB1.out]; exact HB.out.size))
                clear HB HA
                have HB := HB5; have HA := HA5
                clear HB5 HA5 hE c2 b0 b1 b2
                obtain ⟨c2, b0, b1, b2⟩ := HC.out _ HB.out
                have hbl2 := HB.out.size
                rw [HB1.out] at hbl2
                clear e10
                -- the element is appended
                obtain ⟨x0, x1, x2⟩ := HX.out _ HB.out
                have Hbx := hid (box_row (d := [.string (str a), .slice A1 n1 c1, .int .i64 (x.2.safe : Int)]) (RFile.ext Hd.out (HS0.out _ HB.out)) (fun k hk => Nat.lt_of_lt_of_le (HK.out k hk) hbl2) 75)
                have HAb := hid (HA.out.ext ((Below.refl _ _).alloc (Nat.le_refl _) (.cells #[.string (str a), .slice A1 n1 c1, .int .i64 (x.2.safe : Int)] 75)) fun k hk => Nat.lt_of_lt_of_le (HK.out k hk) hbl2)
                have HBb := hid (HB.out.alloc hbl2 (.cells #[.string (str a), .slice A1 n1 c1, .int .i64 (x.2.safe : Int)] 75))
                go_wp2_with (at_builtin; refine wpList_appK (w0 := W1) (R := RFile) (xs := acc) (base := B) finfo rfl (.tmp 47) (.tmp 55) rfl rfl HAb HK HBb (by simp; omega) (some ⟨W.heap.size, 0, none⟩) 1 1 [x] rfl rfl Hbx (by first | omega | (simp; omega)) (by first | omega | (simp; omega)) ?_; intro v2 W2 HA2 HB2 _)
                go_roundw
                case rel => exact ⟨k + 1, false, _, by omega, by simp at hacc ⊢; omega, by go_num, rfl, HA2, HB2, HG2⟩
                case measure => simp [intOf]; omega
          · have HG2 := hid (show (acc ++ [p]) ++ [x] ++ putGo p true (F.drop (k + 1)) = putGo p false F by
              rw [← HG.out]
              conv => rhs; unfold putGo
              rw [if_pos (.inl (by rw [← Ha.out, ← Hnm.out]; exact hb)), if_neg (by rw [← Ha.out, ← Hnm.out]; exact Hne.out)]
              simp)
            go_wp2_with fail
            apply wp_drawn [isV _, isV _, isV _, isV _, isV _, isV _, isV _, isV _, isV _, isV _, isV _, isV _, isV _, isV _, isV _] (by kernel_rfl)
            · kernel_rfl
            · refine ⟨?res0, ?res1, ?res2, ?res3, ?res4, ?res5, ?res6, ?res7, ?res8, ?res9, ?res10, ?res11, ?res12, ?res13, ?res14, trivial⟩
              case res0 =>
                intro v W hE hd; simp only [Region.wanted, ↓reduceIte]; (try simp [deps, waitsOn, Region.binds, knowing, isV, ownsV, anyV] at hd); simp only [putAll, List.take_succ_cons, List.take_zero, List.drop_succ_cons, List.drop_zero, Act.put, List.setIfInBounds_toArray, List.set_cons_zero, List.set_cons_succ, Nat.zero_add, Nat.reduceAdd]; go_simp; exact ⟨Below.refl _ _, rfl⟩
              case res1 =>
                intro v W hE hd; simp only [Region.wanted, ↓reduceIte]; (try simp [deps, waitsOn, Region.binds, knowing, isV, ownsV, anyV] at hd); simp only [putAll, List.take_succ_cons, List.take_zero, List.drop_succ_cons, List.drop_zero, Act.put, List.setIfInBounds_toArray, List.set_cons_zero, List.set_cons_succ, Nat.zero_add, Nat.reduceAdd]; go_simp; exact ⟨Below.refl _ _, rfl⟩
              case res2 =>
                intro v W hE hd; simp only [Region.wanted, ↓reduceIte]; (try simp [deps, waitsOn, Region.binds, knowing, isV, ownsV, anyV] at hd); simp only [putAll, List.take_succ_cons, List.take_zero, List.drop_succ_cons, List.drop_zero, Act.put, List.setIfInBounds_toArray, List.set_cons_zero, List.set_cons_succ, Nat.zero_add, Nat.reduceAdd]; go_simp; exact ⟨Below.refl _ _, rfl⟩
              case res3 =>
                intro v W hE hd; (try simp [deps, waitsOn, Region.binds, knowing, isV, ownsV, anyV] at hd); simp only [putAll, List.take_succ_cons, List.take_zero, List.drop_succ_cons, List.drop_zero, Act.put, List.setIfInBounds_toArray, List.set_cons_zero, List.set_cons_succ, Nat.zero_add, Nat.reduceAdd]; rw [if_pos (by simp [Region.wanted, yielded, hd])]; go_simp; exact ⟨Below.refl _ _, rfl⟩
              case res4 =>
                intro v W hE hd; (try simp [deps, waitsOn, Region.binds, knowing, isV, ownsV, anyV] at hd); simp only [putAll, List.take_succ_cons, List.take_zero, List.drop_succ_cons, List.drop_zero, Act.put, List.setIfInBounds_toArray, List.set_cons_zero, List.set_cons_succ, Nat.zero_add, Nat.reduceAdd]; rw [if_pos (by simp [Region.wanted, yielded, hd])]
                have e1 := cell_below hE b0
                go_simp
                exact ⟨Below.refl _ _, rfl⟩
              case res5 =>
                intro v W hE hd; (try simp [deps, waitsOn, Region.binds, knowing, isV, ownsV, anyV] at hd); simp only [putAll, List.take_succ_cons, List.take_zero, List.drop_succ_cons, List.drop_zero, Act.put, List.setIfInBounds_toArray, List.set_cons_zero, List.set_cons_succ, Nat.zero_add, Nat.reduceAdd]; rw [if_pos (by simp [Region.wanted, yielded, hd])]; go_simp; exact ⟨Below.refl _ _, rfl⟩
              case res6 =>
                intro v W hE hd; (try simp [deps, waitsOn, Region.binds, knowing, isV, ownsV, anyV] at hd); simp only [putAll, List.take_succ_cons, List.take_zero, List.drop_succ_cons, List.drop_zero, Act.put, List.setIfInBounds_toArray, List.set_cons_zero, List.set_cons_succ, Nat.zero_add, Nat.reduceAdd]; rw [if_pos (by simp [Region.wanted, yielded, hd])]; go_simp; exact ⟨Below.refl _ _, rfl⟩
              case res7 =>
                intro v W hE hd; (try simp [deps, waitsOn, Region.binds, knowing, isV, ownsV, anyV] at hd); simp only [putAll, List.take_succ_cons, List.take_zero, List.drop_succ_cons, List.drop_zero, Act.put, List.setIfInBounds_toArray, List.set_cons_zero, List.set_cons_succ, Nat.zero_add, Nat.reduceAdd]; rw [if_pos (by simp [Region.wanted, yielded, hd])]; go_simp; exact ⟨Below.refl _ _, rfl⟩
              case res8 =>
                intro v W hE hd; (try simp [deps, waitsOn, Region.binds, knowing, isV, ownsV, anyV] at hd); simp only [putAll, List.take_succ_cons, List.take_zero, List.drop_succ_cons, List.drop_zero, Act.put, List.setIfInBounds_toArray, List.set_cons_zero, List.set_cons_succ, Nat.zero_add, Nat.reduceAdd]; rw [if_pos (by simp [Region.wanted, yielded, hd])]
                have e1 := cell_below hE c2
                go_simp
                exact ⟨Below.refl _ _, rfl⟩
              case res9 =>
                intro v W hE hd; (try simp [deps, waitsOn, Region.binds, knowing, isV, ownsV, anyV] at hd); simp only [putAll, List.take_succ_cons, List.take_zero, List.drop_succ_cons, List.drop_zero, Act.put, List.setIfInBounds_toArray, List.set_cons_zero, List.set_cons_succ, Nat.zero_add, Nat.reduceAdd]; rw [if_pos (by simp [Region.wanted, yielded, hd])]; go_simp; exact ⟨Below.refl _ _, rfl⟩
              case res10 =>
                intro v W hE hd; (try simp [deps, waitsOn, Region.binds, knowing, isV, ownsV, anyV] at hd); simp only [putAll, List.take_succ_cons, List.take_zero, List.drop_succ_cons, List.drop_zero, Act.put, List.setIfInBounds_toArray, List.set_cons_zero, List.set_cons_succ, Nat.zero_add, Nat.reduceAdd]; rw [if_pos (by simp [Region.wanted, yielded, hd])]; go_simp; exact ⟨Below.refl _ _, rfl⟩
              case res11 =>
                intro v W hE hd; (try simp [deps, waitsOn, Region.binds, knowing, isV, ownsV, anyV] at hd); simp only [putAll, List.take_succ_cons, List.take_zero, List.drop_succ_cons, List.drop_zero, Act.put, List.setIfInBounds_toArray, List.set_cons_zero, List.set_cons_succ, Nat.zero_add, Nat.reduceAdd]; rw [if_pos (by simp [Region.wanted, yielded, hd])]; go_simp; exact ⟨Below.refl _ _, rfl⟩
              case res12 =>
                intro v W hE hd; (try simp [deps, waitsOn, Region.binds, knowing, isV, ownsV, anyV] at hd); simp only [putAll, List.take_succ_cons, List.take_zero, List.drop_succ_cons, List.drop_zero, Act.put, List.setIfInBounds_toArray, List.set_cons_zero, List.set_cons_succ, Nat.zero_add, Nat.reduceAdd]; rw [if_pos (by simp [Region.wanted, yielded, hd])]
                have e1 := cell_below hE (HX.out _ HB.out).1
                go_simp
                exact ⟨Below.refl _ _, rfl⟩
              case res13 =>
                intro v W hE hd; (try simp [deps, waitsOn, Region.binds, knowing, isV, ownsV, anyV] at hd); simp only [putAll, List.take_succ_cons, List.take_zero, List.drop_succ_cons, List.drop_zero, Act.put, List.setIfInBounds_toArray, List.set_cons_zero, List.set_cons_succ, Nat.zero_add, Nat.reduceAdd]; rw [if_pos (by simp [Region.wanted, yielded, hd])]; go_simp; exact ⟨Below.refl _ _, rfl⟩
              case res14 =>
                intro v W hE hd; simp only [Region.wanted, ↓reduceIte]; (try simp [deps, waitsOn, Region.binds, knowing, isV, ownsV, anyV] at hd); simp only [putAll, List.take_succ_cons, List.take_zero, List.drop_succ_cons, List.drop_zero, Act.put, List.setIfInBounds_toArray, List.set_cons_zero, List.set_cons_succ, Nat.zero_add, Nat.reduceAdd]; go_simp; exact ⟨Below.refl _ _, rfl⟩
            · rintro v W hE ⟨-, -, -, -, -, -, -, -, -, -, -, -, -, -, e14, -⟩
              have e14 := (show v 14 = _ from e14)
              simp only [putAll, List.take_succ_cons, List.take_zero, List.drop_succ_cons, List.drop_zero, Act.put, List.setIfInBounds_toArray, List.set_cons_zero, List.set_cons_succ, Nat.zero_add, Nat.reduceAdd]
              rw [e14]
              have HB5 := hid (below_then HB.out (by rw [← HB1.out]; exact HB.out.size) hE)
              have HA5 := hid (HA.out.ext hE fun k hk => Nat.lt_of_lt_of_le (HK.out k hk) (by rw [← HB1.out]; exact HB.out.size))
              clear HB HA
              have HB := HB5; have HA := HA5
              clear HB5 HA5 hE c2 b0 b1 b2
              obtain ⟨c2, b0, b1, b2⟩ := HC.out _ HB.out
              have hbl2 := HB.out.size
              rw [HB1.out] at hbl2
              clear e14
              -- p is appended
              have Hbx := hid (box_row (d := [.string (str nm), .slice A n0 c, .int .i64 (p.2.safe : Int)]) (RFile.ext Hrel.out (HS0.out _ HB.out)) (fun k hk => Nat.lt_of_lt_of_le (HK.out k hk) hbl2) 75)
              have HAb := hid (HA.out.ext ((Below.refl _ _).alloc (Nat.le_refl _) (.cells #[.string (str nm), .slice A n0 c, .int .i64 (p.2.safe : Int)] 75)) fun k hk => Nat.lt_of_lt_of_le (HK.out k hk) hbl2)
              have HBb := hid (HB.out.alloc hbl2 (.cells #[.string (str nm), .slice A n0 c, .int .i64 (p.2.safe : Int)] 75))
              go_wp2_with (at_builtin; refine wpList_appK (w0 := W1) (R := RFile) (xs := acc) (base := B) finfo rfl (.tmp 32) (.tmp 34) rfl rfl HAb HK HBb (by simp; omega) (some ⟨W.heap.size, 0, none⟩) 1 1 [p] rfl rfl Hbx (by omega) (by omega) ?_; intro v2 W2 HA2 HB2 _)
              clear Hbx HAb HBb
              clear HA HB c2 b0 b1 b2
              have HA := HA2; have HB := HB2
              clear HA2 HB2 hbl2
              obtain ⟨c2, b0, b1, b2⟩ := HC.out _ HB.out
              have hbl2 := HB.out.size
              rw [HB1.out] at hbl2
              apply wp_drawn [isV _, isV _, isV _, isV _, isV _, isV _, isV _, isV _, isV _, isV _, isV _] (by kernel_rfl)
              · kernel_rfl
              · refine ⟨?rds0, ?rds1, ?rds2, ?rds3, ?rds4, ?rds5, ?rds6, ?rds7, ?rds8, ?rds9, ?rds10, trivial⟩
                case rds0 =>
                  intro v W hE hd; simp only [Region.wanted, ↓reduceIte]; (try simp [deps, waitsOn, Region.binds, knowing, isV, ownsV, anyV] at hd); simp only [putAll, List.take_succ_cons, List.take_zero, List.drop_succ_cons, List.drop_zero, Act.put, List.setIfInBounds_toArray, List.set_cons_zero, List.set_cons_succ, Nat.zero_add, Nat.reduceAdd]; go_simp; exact ⟨Below.refl _ _, rfl⟩
                case rds1 =>
                  intro v W hE hd; simp only [Region.wanted, ↓reduceIte]; (try simp [deps, waitsOn, Region.binds, knowing, isV, ownsV, anyV] at hd); simp only [putAll, List.take_succ_cons, List.take_zero, List.drop_succ_cons, List.drop_zero, Act.put, List.setIfInBounds_toArray, List.set_cons_zero, List.set_cons_succ, Nat.zero_add, Nat.reduceAdd]; go_simp; exact ⟨Below.refl _ _, rfl⟩
                case rds2 =>
                  intro v W hE hd; simp only [Region.wanted, ↓reduceIte]; (try simp [deps, waitsOn, Region.binds, knowing, isV, ownsV, anyV] at hd); simp only [putAll, List.take_succ_cons, List.take_zero, List.drop_succ_cons, List.drop_zero, Act.put, List.setIfInBounds_toArray, List.set_cons_zero, List.set_cons_succ, Nat.zero_add, Nat.reduceAdd]; go_simp; exact ⟨Below.refl _ _, rfl⟩
                case rds3 =>
                  intro v W hE hd; simp only [Region.wanted, ↓reduceIte]; (try simp [deps, waitsOn, Region.binds, knowing, isV, ownsV, anyV] at hd); simp only [putAll, List.take_succ_cons, List.take_zero, List.drop_succ_cons, List.drop_zero, Act.put, List.setIfInBounds_toArray, List.set_cons_zero, List.set_cons_succ, Nat.zero_add, Nat.reduceAdd]
                  have e1 := cell_below hE c2
                  go_simp
                  exact ⟨Below.refl _ _, rfl⟩
                case rds4 =>
                  intro v W hE hd; simp only [Region.wanted, ↓reduceIte]; (try simp [deps, waitsOn, Region.binds, knowing, isV, ownsV, anyV] at hd); simp only [putAll, List.take_succ_cons, List.take_zero, List.drop_succ_cons, List.drop_zero, Act.put, List.setIfInBounds_toArray, List.set_cons_zero, List.set_cons_succ, Nat.zero_add, Nat.reduceAdd]; go_simp; exact ⟨Below.refl _ _, rfl⟩
                case rds5 =>
                  intro v W hE hd; simp only [Region.wanted, ↓reduceIte]; (try simp [deps, waitsOn, Region.binds, knowing, isV, ownsV, anyV] at hd); simp only [putAll, List.take_succ_cons, List.take_zero, List.drop_succ_cons, List.drop_zero, Act.put, List.setIfInBounds_toArray, List.set_cons_zero, List.set_cons_succ, Nat.zero_add, Nat.reduceAdd]; go_simp; exact ⟨Below.refl _ _, rfl⟩
                case rds6 =>
                  intro v W hE hd; simp only [Region.wanted, ↓reduceIte]; (try simp [deps, waitsOn, Region.binds, knowing, isV, ownsV, anyV] at hd); simp only [putAll, List.take_succ_cons, List.take_zero, List.drop_succ_cons, List.drop_zero, Act.put, List.setIfInBounds_toArray, List.set_cons_zero, List.set_cons_succ, Nat.zero_add, Nat.reduceAdd]; go_simp; exact ⟨Below.refl _ _, rfl⟩
                case rds7 =>
                  intro v W hE hd; simp only [Region.wanted, ↓reduceIte]; (try simp [deps, waitsOn, Region.binds, knowing, isV, ownsV, anyV] at hd); simp only [putAll, List.take_succ_cons, List.take_zero, List.drop_succ_cons, List.drop_zero, Act.put, List.setIfInBounds_toArray, List.set_cons_zero, List.set_cons_succ, Nat.zero_add, Nat.reduceAdd]
                  have e1 := cell_below hE (HX.out _ HB.out).1
                  go_simp
                  exact ⟨Below.refl _ _, rfl⟩
                case rds8 =>
                  intro v W hE hd; simp only [Region.wanted, ↓reduceIte]; (try simp [deps, waitsOn, Region.binds, knowing, isV, ownsV, anyV] at hd); simp only [putAll, List.take_succ_cons, List.take_zero, List.drop_succ_cons, List.drop_zero, Act.put, List.setIfInBounds_toArray, List.set_cons_zero, List.set_cons_succ, Nat.zero_add, Nat.reduceAdd]; go_simp; exact ⟨Below.refl _ _, rfl⟩
                case rds9 =>
                  intro v W hE hd; simp only [Region.wanted, ↓reduceIte]; (try simp [deps, waitsOn, Region.binds, knowing, isV, ownsV, anyV] at hd); simp only [putAll, List.take_succ_cons, List.take_zero, List.drop_succ_cons, List.drop_zero, Act.put, List.setIfInBounds_toArray, List.set_cons_zero, List.set_cons_succ, Nat.zero_add, Nat.reduceAdd]
                  have e1 := cell_below hE b0
                  go_simp
                  exact ⟨Below.refl _ _, rfl⟩
                case rds10 =>
                  intro v W hE hd; simp only [Region.wanted, ↓reduceIte]; (try simp [deps, waitsOn, Region.binds, knowing, isV, ownsV, anyV] at hd); simp only [putAll, List.take_succ_cons, List.take_zero, List.drop_succ_cons, List.drop_zero, Act.put, List.setIfInBounds_toArray, List.set_cons_zero, List.set_cons_succ, Nat.zero_add, Nat.reduceAdd]; go_simp; exact ⟨Below.refl _ _, rfl⟩
              · rintro v W hE ⟨-, -, -, -, -, -, -, -, -, -, e10, -⟩
                have e10 := (show v 10 = _ from e10)
                simp only [putAll, List.take_succ_cons, List.take_zero, List.drop_succ_cons, List.drop_zero, Act.put, List.setIfInBounds_toArray, List.set_cons_zero, List.set_cons_succ, Nat.zero_add, Nat.reduceAdd]
                rw [e10]
                have HB5 := hid (below_then HB.out (by rw [← HB1.out]; exact HB.out.size) hE)
                have HA5 := hid (HA.out.ext hE fun k hk => Nat.lt_of_lt_of_le (HK.out k hk) (by rw [← HB1.out]; exact HB.out.size))
                clear HB HA
                have HB := HB5; have HA := HA5
                clear HB5 HA5 hE c2 b0 b1 b2
                obtain ⟨c2, b0, b1, b2⟩ := HC.out _ HB.out
                have hbl2 := HB.out.size
                rw [HB1.out] at hbl2
                clear e10
                -- the element is appended
                obtain ⟨x0, x1, x2⟩ := HX.out _ HB.out
                have Hbx := hid (box_row (d := [.string (str a), .slice A1 n1 c1, .int .i64 (x.2.safe : Int)]) (RFile.ext Hd.out (HS0.out _ HB.out)) (fun k hk => Nat.lt_of_lt_of_le (HK.out k hk) hbl2) 75)
                have HAb := hid (HA.out.ext ((Below.refl _ _).alloc (Nat.le_refl _) (.cells #[.string (str a), .slice A1 n1 c1, .int .i64 (x.2.safe : Int)] 75)) fun k hk => Nat.lt_of_lt_of_le (HK.out k hk) hbl2)
                have HBb := hid (HB.out.alloc hbl2 (.cells #[.string (str a), .slice A1 n1 c1, .int .i64 (x.2.safe : Int)] 75))
                go_wp2_with (at_builtin; refine wpList_appK (w0 := W1) (R := RFile) (xs := (acc ++ [p])) (base := B) finfo rfl (.tmp 47) (.tmp 55) rfl rfl HAb HK HBb (by simp; omega) (some ⟨W.heap.size, 0, none⟩) 1 1 [x] rfl rfl Hbx (by first | omega | (simp; omega)) (by first | omega | (simp; omega)) ?_; intro v2 W2 HA2 HB2 _)
                go_roundw
                case rel => exact ⟨k + 1, true, _, by omega, by simp at hacc ⊢; omega, by go_num, rfl, HA2, HB2, HG2⟩
                case measure => simp [intOf]; omega
      · by_cases heq : a = nm
        · obtain rfl := heq.symm
          have hq1 : (nm == nm) = true := beq_self_eq_true nm
          have HG2 := hid (show acc ++ putGo p true (F.drop (k + 1)) = putGo p false F by
            rw [← HG.out]
            conv => rhs; unfold putGo
            rw [if_pos (by rw [← Ha.out, ← Hnm.out])]
            simp)
          go_wp2_with fail
          apply wp_drawn [isV _, isV _, isV _, anyV, anyV, anyV, anyV, anyV, anyV, anyV, anyV, anyV, anyV, anyV, isV _] (by kernel_rfl)
          · kernel_rfl
          · refine ⟨?rgs0, ?rgs1, ?rgs2, ?rgs3, ?rgs4, ?rgs5, ?rgs6, ?rgs7, ?rgs8, ?rgs9, ?rgs10, ?rgs11, ?rgs12, ?rgs13, ?rgs14, trivial⟩
            case rgs0 =>
              intro v W hE hd; simp only [Region.wanted, ↓reduceIte]; (try simp [deps, waitsOn, Region.binds, knowing, isV, ownsV, anyV] at hd); simp only [putAll, List.take_succ_cons, List.take_zero, List.drop_succ_cons, List.drop_zero, Act.put, List.setIfInBounds_toArray, List.set_cons_zero, List.set_cons_succ, Nat.zero_add, Nat.reduceAdd]; go_simp; exact ⟨Below.refl _ _, rfl⟩
            case rgs1 =>
              intro v W hE hd; simp only [Region.wanted, ↓reduceIte]; (try simp [deps, waitsOn, Region.binds, knowing, isV, ownsV, anyV] at hd); simp only [putAll, List.take_succ_cons, List.take_zero, List.drop_succ_cons, List.drop_zero, Act.put, List.setIfInBounds_toArray, List.set_cons_zero, List.set_cons_succ, Nat.zero_add, Nat.reduceAdd]; go_simp; exact ⟨Below.refl _ _, rfl⟩
            case rgs2 =>
              intro v W hE hd; simp only [Region.wanted, ↓reduceIte]; (try simp [deps, waitsOn, Region.binds, knowing, isV, ownsV, anyV] at hd); simp only [putAll, List.take_succ_cons, List.take_zero, List.drop_succ_cons, List.drop_zero, Act.put, List.setIfInBounds_toArray, List.set_cons_zero, List.set_cons_succ, Nat.zero_add, Nat.reduceAdd]; go_simp; exact ⟨Below.refl _ _, rfl⟩
            case rgs3 =>
              intro v W hE hd; (try simp [deps, waitsOn, Region.binds, knowing, isV, ownsV, anyV] at hd); simp only [putAll, List.take_succ_cons, List.take_zero, List.drop_succ_cons, List.drop_zero, Act.put, List.setIfInBounds_toArray, List.set_cons_zero, List.set_cons_succ, Nat.zero_add, Nat.reduceAdd]; rw [if_neg (by simp [Region.wanted, yielded, hd])]; exact trivial
            case rgs4 =>
              intro v W hE hd; (try simp [deps, waitsOn, Region.binds, knowing, isV, ownsV, anyV] at hd); simp only [putAll, List.take_succ_cons, List.take_zero, List.drop_succ_cons, List.drop_zero, Act.put, List.setIfInBounds_toArray, List.set_cons_zero, List.set_cons_succ, Nat.zero_add, Nat.reduceAdd]; rw [if_neg (by simp [Region.wanted, yielded, hd])]; exact trivial
            case rgs5 =>
              intro v W hE hd; (try simp [deps, waitsOn, Region.binds, knowing, isV, ownsV, anyV] at hd); simp only [putAll, List.take_succ_cons, List.take_zero, List.drop_succ_cons, List.drop_zero, Act.put, List.setIfInBounds_toArray, List.set_cons_zero, List.set_cons_succ, Nat.zero_add, Nat.reduceAdd]; rw [if_neg (by simp [Region.wanted, yielded, hd])]; exact trivial
            case rgs6 =>
              intro v W hE hd; (try simp [deps, waitsOn, Region.binds, knowing, isV, ownsV, anyV] at hd); simp only [putAll, List.take_succ_cons, List.take_zero, List.drop_succ_cons, List.drop_zero, Act.put, List.setIfInBounds_toArray, List.set_cons_zero, List.set_cons_succ, Nat.zero_add, Nat.reduceAdd]; rw [if_neg (by simp [Region.wanted, yielded, hd])]; exact trivial
            case rgs7 =>
              intro v W hE hd; (try simp [deps, waitsOn, Region.binds, knowing, isV, ownsV, anyV] at hd); simp only [putAll, List.take_succ_cons, List.take_zero, List.drop_succ_cons, List.drop_zero, Act.put, List.setIfInBounds_toArray, List.set_cons_zero, List.set_cons_succ, Nat.zero_add, Nat.reduceAdd]; rw [if_neg (by simp [Region.wanted, yielded, hd])]; exact trivial
            case rgs8 =>
              intro v W hE hd; (try simp [deps, waitsOn, Region.binds, knowing, isV, ownsV, anyV] at hd); simp only [putAll, List.take_succ_cons, List.take_zero, List.drop_succ_cons, List.drop_zero, Act.put, List.setIfInBounds_toArray, List.set_cons_zero, List.set_cons_succ, Nat.zero_add, Nat.reduceAdd]; rw [if_neg (by simp [Region.wanted, yielded, hd])]; exact trivial
            case rgs9 =>
              intro v W hE hd; (try simp [deps, waitsOn, Region.binds, knowing, isV, ownsV, anyV] at hd); simp only [putAll, List.take_succ_cons, List.take_zero, List.drop_succ_cons, List.drop_zero, Act.put, List.setIfInBounds_toArray, List.set_cons_zero, List.set_cons_succ, Nat.zero_add, Nat.reduceAdd]; rw [if_neg (by simp [Region.wanted, yielded, hd])]; exact trivial
            case rgs10 =>
              intro v W hE hd; (try simp [deps, waitsOn, Region.binds, knowing, isV, ownsV, anyV] at hd); simp only [putAll, List.take_succ_cons, List.take_zero, List.drop_succ_cons, List.drop_zero, Act.put, List.setIfInBounds_toArray, List.set_cons_zero, List.set_cons_succ, Nat.zero_add, Nat.reduceAdd]; rw [if_neg (by simp [Region.wanted, yielded, hd])]; exact trivial
            case rgs11 =>
              intro v W hE hd; (try simp [deps, waitsOn, Region.binds, knowing, isV, ownsV, anyV] at hd); simp only [putAll, List.take_succ_cons, List.take_zero, List.drop_succ_cons, List.drop_zero, Act.put, List.setIfInBounds_toArray, List.set_cons_zero, List.set_cons_succ, Nat.zero_add, Nat.reduceAdd]; rw [if_neg (by simp [Region.wanted, yielded, hd])]; exact trivial
            case rgs12 =>
              intro v W hE hd; (try simp [deps, waitsOn, Region.binds, knowing, isV, ownsV, anyV] at hd); simp only [putAll, List.take_succ_cons, List.take_zero, List.drop_succ_cons, List.drop_zero, Act.put, List.setIfInBounds_toArray, List.set_cons_zero, List.set_cons_succ, Nat.zero_add, Nat.reduceAdd]; rw [if_neg (by simp [Region.wanted, yielded, hd])]; exact trivial
            case rgs13 =>
              intro v W hE hd; (try simp [deps, waitsOn, Region.binds, knowing, isV, ownsV, anyV] at hd); simp only [putAll, List.take_succ_cons, List.take_zero, List.drop_succ_cons, List.drop_zero, Act.put, List.setIfInBounds_toArray, List.set_cons_zero, List.set_cons_succ, Nat.zero_add, Nat.reduceAdd]; rw [if_neg (by simp [Region.wanted, yielded, hd])]; exact trivial
            case rgs14 =>
              intro v W hE hd; simp only [Region.wanted, ↓reduceIte]; (try simp [deps, waitsOn, Region.binds, knowing, isV, ownsV, anyV] at hd); simp only [putAll, List.take_succ_cons, List.take_zero, List.drop_succ_cons, List.drop_zero, Act.put, List.setIfInBounds_toArray, List.set_cons_zero, List.set_cons_succ, Nat.zero_add, Nat.reduceAdd]; go_simp; exact ⟨Below.refl _ _, rfl⟩
          · rintro v W hE ⟨-, -, -, -, -, -, -, -, -, -, -, -, -, -, e14, -⟩
            have e14 := (show v 14 = _ from e14)
            simp only [putAll, List.take_succ_cons, List.take_zero, List.drop_succ_cons, List.drop_zero, Act.put, List.setIfInBounds_toArray, List.set_cons_zero, List.set_cons_succ, Nat.zero_add, Nat.reduceAdd]
            rw [e14]
            have HB5 := hid (below_then HB.out (by rw [← HB1.out]; exact HB.out.size) hE)
            have HA5 := hid (HA.out.ext hE fun k hk => Nat.lt_of_lt_of_le (HK.out k hk) (by rw [← HB1.out]; exact HB.out.size))
            clear HB HA
            have HB := HB5; have HA := HA5
            clear HB5 HA5 hE c2 b0 b1 b2
            obtain ⟨c2, b0, b1, b2⟩ := HC.out _ HB.out
            have hbl2 := HB.out.size
            rw [HB1.out] at hbl2
            clear e14
            go_wp2_with fail
            apply wp_drawn [isV _, isV _, isV _, isV _, isV _, isV _, isV _, isV _, isV _, isV _, isV _] (by kernel_rfl)
            · kernel_rfl
            · refine ⟨?rhs0, ?rhs1, ?rhs2, ?rhs3, ?rhs4, ?rhs5, ?rhs6, ?rhs7, ?rhs8, ?rhs9, ?rhs10, trivial⟩
              case rhs0 =>
                intro v W hE hd; simp only [Region.wanted, ↓reduceIte]; (try simp [deps, waitsOn, Region.binds, knowing, isV, ownsV, anyV] at hd); simp only [putAll, List.take_succ_cons, List.take_zero, List.drop_succ_cons, List.drop_zero, Act.put, List.setIfInBounds_toArray, List.set_cons_zero, List.set_cons_succ, Nat.zero_add, Nat.reduceAdd]; go_simp; exact ⟨Below.refl _ _, rfl⟩
              case rhs1 =>
                intro v W hE hd; simp only [Region.wanted, ↓reduceIte]; (try simp [deps, waitsOn, Region.binds, knowing, isV, ownsV, anyV] at hd); simp only [putAll, List.take_succ_cons, List.take_zero, List.drop_succ_cons, List.drop_zero, Act.put, List.setIfInBounds_toArray, List.set_cons_zero, List.set_cons_succ, Nat.zero_add, Nat.reduceAdd]; go_simp; exact ⟨Below.refl _ _, rfl⟩
              case rhs2 =>
                intro v W hE hd; simp only [Region.wanted, ↓reduceIte]; (try simp [deps, waitsOn, Region.binds, knowing, isV, ownsV, anyV] at hd); simp only [putAll, List.take_succ_cons, List.take_zero, List.drop_succ_cons, List.drop_zero, Act.put, List.setIfInBounds_toArray, List.set_cons_zero, List.set_cons_succ, Nat.zero_add, Nat.reduceAdd]; go_simp; exact ⟨Below.refl _ _, rfl⟩
              case rhs3 =>
                intro v W hE hd; simp only [Region.wanted, ↓reduceIte]; (try simp [deps, waitsOn, Region.binds, knowing, isV, ownsV, anyV] at hd); simp only [putAll, List.take_succ_cons, List.take_zero, List.drop_succ_cons, List.drop_zero, Act.put, List.setIfInBounds_toArray, List.set_cons_zero, List.set_cons_succ, Nat.zero_add, Nat.reduceAdd]
                have e1 := cell_below hE c2
                go_simp
                exact ⟨Below.refl _ _, rfl⟩
              case rhs4 =>
                intro v W hE hd; simp only [Region.wanted, ↓reduceIte]; (try simp [deps, waitsOn, Region.binds, knowing, isV, ownsV, anyV] at hd); simp only [putAll, List.take_succ_cons, List.take_zero, List.drop_succ_cons, List.drop_zero, Act.put, List.setIfInBounds_toArray, List.set_cons_zero, List.set_cons_succ, Nat.zero_add, Nat.reduceAdd]; go_simp; exact ⟨Below.refl _ _, rfl⟩
              case rhs5 =>
                intro v W hE hd; simp only [Region.wanted, ↓reduceIte]; (try simp [deps, waitsOn, Region.binds, knowing, isV, ownsV, anyV] at hd); simp only [putAll, List.take_succ_cons, List.take_zero, List.drop_succ_cons, List.drop_zero, Act.put, List.setIfInBounds_toArray, List.set_cons_zero, List.set_cons_succ, Nat.zero_add, Nat.reduceAdd]; go_simp; exact ⟨Below.refl _ _, rfl⟩
              case rhs6 =>
                intro v W hE hd; simp only [Region.wanted, ↓reduceIte]; (try simp [deps, waitsOn, Region.binds, knowing, isV, ownsV, anyV] at hd); simp only [putAll, List.take_succ_cons, List.take_zero, List.drop_succ_cons, List.drop_zero, Act.put, List.setIfInBounds_toArray, List.set_cons_zero, List.set_cons_succ, Nat.zero_add, Nat.reduceAdd]; go_simp; exact ⟨Below.refl _ _, rfl⟩
              case rhs7 =>
                intro v W hE hd; simp only [Region.wanted, ↓reduceIte]; (try simp [deps, waitsOn, Region.binds, knowing, isV, ownsV, anyV] at hd); simp only [putAll, List.take_succ_cons, List.take_zero, List.drop_succ_cons, List.drop_zero, Act.put, List.setIfInBounds_toArray, List.set_cons_zero, List.set_cons_succ, Nat.zero_add, Nat.reduceAdd]
                have e1 := cell_below hE (HX.out _ HB.out).1
                go_simp
                exact ⟨Below.refl _ _, rfl⟩
              case rhs8 =>
                intro v W hE hd; simp only [Region.wanted, ↓reduceIte]; (try simp [deps, waitsOn, Region.binds, knowing, isV, ownsV, anyV] at hd); simp only [putAll, List.take_succ_cons, List.take_zero, List.drop_succ_cons, List.drop_zero, Act.put, List.setIfInBounds_toArray, List.set_cons_zero, List.set_cons_succ, Nat.zero_add, Nat.reduceAdd]; go_simp; exact ⟨Below.refl _ _, rfl⟩
              case rhs9 =>
                intro v W hE hd; simp only [Region.wanted, ↓reduceIte]; (try simp [deps, waitsOn, Region.binds, knowing, isV, ownsV, anyV] at hd); simp only [putAll, List.take_succ_cons, List.take_zero, List.drop_succ_cons, List.drop_zero, Act.put, List.setIfInBounds_toArray, List.set_cons_zero, List.set_cons_succ, Nat.zero_add, Nat.reduceAdd]
                have e1 := cell_below hE b0
                go_simp
                exact ⟨Below.refl _ _, rfl⟩
              case rhs10 =>
                intro v W hE hd; simp only [Region.wanted, ↓reduceIte]; (try simp [deps, waitsOn, Region.binds, knowing, isV, ownsV, anyV] at hd); simp only [putAll, List.take_succ_cons, List.take_zero, List.drop_succ_cons, List.drop_zero, Act.put, List.setIfInBounds_toArray, List.set_cons_zero, List.set_cons_succ, Nat.zero_add, Nat.reduceAdd]; go_simp; exact ⟨Below.refl _ _, rfl⟩
            · rintro v W hE ⟨-, -, -, -, -, -, -, -, -, -, e10, -⟩
              have e10 := (show v 10 = _ from e10)
              simp only [putAll, List.take_succ_cons, List.take_zero, List.drop_succ_cons, List.drop_zero, Act.put, List.setIfInBounds_toArray, List.set_cons_zero, List.set_cons_succ, Nat.zero_add, Nat.reduceAdd]
              rw [e10]
              have HB5 := hid (below_then HB.out (by rw [← HB1.out]; exact HB.out.size) hE)
              have HA5 := hid (HA.out.ext hE fun k hk => Nat.lt_of_lt_of_le (HK.out k hk) (by rw [← HB1.out]; exact HB.out.size))
              clear HB HA
              have HB := HB5; have HA := HA5
              clear HB5 HA5 hE c2 b0 b1 b2
              obtain ⟨c2, b0, b1, b2⟩ := HC.out _ HB.out
              have hbl2 := HB.out.size
              rw [HB1.out] at hbl2
              clear e10
              go_wp2_with fail
              go_roundw
              case rel => exact ⟨k + 1, true, _, by omega, by simp at hacc ⊢; omega, by go_num, rfl, HA, HB, HG2⟩
              case measure => simp [intOf]; omega
        · have Hne := hid heq
          have hq1 : (a == nm) = false := beq_eq_false_iff_ne.2 heq
          clear heq
          have HG2 := hid (show (acc ++ [x]) ++ putGo p true (F.drop (k + 1)) = putGo p false F by
            rw [← HG.out]
            conv => rhs; unfold putGo
            rw [if_neg (by rw [← Ha.out, ← Hnm.out]; exact Hne.out)]
            simp)
          go_wp2_with fail
          apply wp_drawn [isV _, isV _, isV _, anyV, anyV, anyV, anyV, anyV, anyV, anyV, anyV, anyV, anyV, anyV, isV _] (by kernel_rfl)
          · kernel_rfl
          · refine ⟨?ris0, ?ris1, ?ris2, ?ris3, ?ris4, ?ris5, ?ris6, ?ris7, ?ris8, ?ris9, ?ris10, ?ris11, ?ris12, ?ris13, ?ris14, trivial⟩
            case ris0 =>
              intro v W hE hd; simp only [Region.wanted, ↓reduceIte]; (try simp [deps, waitsOn, Region.binds, knowing, isV, ownsV, anyV] at hd); simp only [putAll, List.take_succ_cons, List.take_zero, List.drop_succ_cons, List.drop_zero, Act.put, List.setIfInBounds_toArray, List.set_cons_zero, List.set_cons_succ, Nat.zero_add, Nat.reduceAdd]; go_simp; exact ⟨Below.refl _ _, rfl⟩
            case ris1 =>
              intro v W hE hd; simp only [Region.wanted, ↓reduceIte]; (try simp [deps, waitsOn, Region.binds, knowing, isV, ownsV, anyV] at hd); simp only [putAll, List.take_succ_cons, List.take_zero, List.drop_succ_cons, List.drop_zero, Act.put, List.setIfInBounds_toArray, List.set_cons_zero, List.set_cons_succ, Nat.zero_add, Nat.reduceAdd]; go_simp; exact ⟨Below.refl _ _, rfl⟩
            case ris2 =>
              intro v W hE hd; simp only [Region.wanted, ↓reduceIte]; (try simp [deps, waitsOn, Region.binds, knowing, isV, ownsV, anyV] at hd); simp only [putAll, List.take_succ_cons, List.take_zero, List.drop_succ_cons, List.drop_zero, Act.put, List.setIfInBounds_toArray, List.set_cons_zero, List.set_cons_succ, Nat.zero_add, Nat.reduceAdd]; go_simp; exact ⟨Below.refl _ _, rfl⟩
            case ris3 =>
              intro v W hE hd; (try simp [deps, waitsOn, Region.binds, knowing, isV, ownsV, anyV] at hd); simp only [putAll, List.take_succ_cons, List.take_zero, List.drop_succ_cons, List.drop_zero, Act.put, List.setIfInBounds_toArray, List.set_cons_zero, List.set_cons_succ, Nat.zero_add, Nat.reduceAdd]; rw [if_neg (by simp [Region.wanted, yielded, hd])]; exact trivial
            case ris4 =>
              intro v W hE hd; (try simp [deps, waitsOn, Region.binds, knowing, isV, ownsV, anyV] at hd); simp only [putAll, List.take_succ_cons, List.take_zero, List.drop_succ_cons, List.drop_zero, Act.put, List.setIfInBounds_toArray, List.set_cons_zero, List.set_cons_succ, Nat.zero_add, Nat.reduceAdd]; rw [if_neg (by simp [Region.wanted, yielded, hd])]; exact trivial
            case ris5 =>
              intro v W hE hd; (try simp [deps, waitsOn, Region.binds, knowing, isV, ownsV, anyV] at hd); simp only [putAll, List.take_succ_cons, List.take_zero, List.drop_succ_cons, List.drop_zero, Act.put, List.setIfInBounds_toArray, List.set_cons_zero, List.set_cons_succ, Nat.zero_add, Nat.reduceAdd]; rw [if_neg (by simp [Region.wanted, yielded, hd])]; exact trivial
            case ris6 =>
              intro v W hE hd; (try simp [deps, waitsOn, Region.binds, knowing, isV, ownsV, anyV] at hd); simp only [putAll, List.take_succ_cons, List.take_zero, List.drop_succ_cons, List.drop_zero, Act.put, List.setIfInBounds_toArray, List.set_cons_zero, List.set_cons_succ, Nat.zero_add, Nat.reduceAdd]; rw [if_neg (by simp [Region.wanted, yielded, hd])]; exact trivial
            case ris7 =>
              intro v W hE hd; (try simp [deps, waitsOn, Region.binds, knowing, isV, ownsV, anyV] at hd); simp only [putAll, List.take_succ_cons, List.take_zero, List.drop_succ_cons, List.drop_zero, Act.put, List.setIfInBounds_toArray, List.set_cons_zero, List.set_cons_succ, Nat.zero_add, Nat.reduceAdd]; rw [if_neg (by simp [Region.wanted, yielded, hd])]; exact trivial
            case ris8 =>
              intro v W hE hd; (try simp [deps, waitsOn, Region.binds, knowing, isV, ownsV, anyV] at hd); simp only [putAll, List.take_succ_cons, List.take_zero, List.drop_succ_cons, List.drop_zero, Act.put, List.setIfInBounds_toArray, List.set_cons_zero, List.set_cons_succ, Nat.zero_add, Nat.reduceAdd]; rw [if_neg (by simp [Region.wanted, yielded, hd])]; exact trivial
            case ris9 =>
              intro v W hE hd; (try simp [deps, waitsOn, Region.binds, knowing, isV, ownsV, anyV] at hd); simp only [putAll, List.take_succ_cons, List.take_zero, List.drop_succ_cons, List.drop_zero, Act.put, List.setIfInBounds_toArray, List.set_cons_zero, List.set_cons_succ, Nat.zero_add, Nat.reduceAdd]; rw [if_neg (by simp [Region.wanted, yielded, hd])]; exact trivial
            case ris10 =>
              intro v W hE hd; (try simp [deps, waitsOn, Region.binds, knowing, isV, ownsV, anyV] at hd); simp only [putAll, List.take_succ_cons, List.take_zero, List.drop_succ_cons, List.drop_zero, Act.put, List.setIfInBounds_toArray, List.set_cons_zero, List.set_cons_succ, Nat.zero_add, Nat.reduceAdd]; rw [if_neg (by simp [Region.wanted, yielded, hd])]; exact trivial
            case ris11 =>
              intro v W hE hd; (try simp [deps, waitsOn, Region.binds, knowing, isV, ownsV, anyV] at hd); simp only [putAll, List.take_succ_cons, List.take_zero, List.drop_succ_cons, List.drop_zero, Act.put, List.setIfInBounds_toArray, List.set_cons_zero, List.set_cons_succ, Nat.zero_add, Nat.reduceAdd]; rw [if_neg (by simp [Region.wanted, yielded, hd])]; exact trivial
            case ris12 =>
              intro v W hE hd; (try simp [deps, waitsOn, Region.binds, knowing, isV, ownsV, anyV] at hd); simp only [putAll, List.take_succ_cons, List.take_zero, List.drop_succ_cons, List.drop_zero, Act.put, List.setIfInBounds_toArray, List.set_cons_zero, List.set_cons_succ, Nat.zero_add, Nat.reduceAdd]; rw [if_neg (by simp [Region.wanted, yielded, hd])]; exact trivial
            case ris13 =>
              intro v W hE hd; (try simp [deps, waitsOn, Region.binds, knowing, isV, ownsV, anyV] at hd); simp only [putAll, List.take_succ_cons, List.take_zero, List.drop_succ_cons, List.drop_zero, Act.put, List.setIfInBounds_toArray, List.set_cons_zero, List.set_cons_succ, Nat.zero_add, Nat.reduceAdd]; rw [if_neg (by simp [Region.wanted, yielded, hd])]; exact trivial
            case ris14 =>
              intro v W hE hd; simp only [Region.wanted, ↓reduceIte]; (try simp [deps, waitsOn, Region.binds, knowing, isV, ownsV, anyV] at hd); simp only [putAll, List.take_succ_cons, List.take_zero, List.drop_succ_cons, List.drop_zero, Act.put, List.setIfInBounds_toArray, List.set_cons_zero, List.set_cons_succ, Nat.zero_add, Nat.reduceAdd]; go_simp; exact ⟨Below.refl _ _, rfl⟩
          · rintro v W hE ⟨-, -, -, -, -, -, -, -, -, -, -, -, -, -, e14, -⟩
            have e14 := (show v 14 = _ from e14)
            simp only [putAll, List.take_succ_cons, List.take_zero, List.drop_succ_cons, List.drop_zero, Act.put, List.setIfInBounds_toArray, List.set_cons_zero, List.set_cons_succ, Nat.zero_add, Nat.reduceAdd]
            rw [e14]
            have HB5 := hid (below_then HB.out (by rw [← HB1.out]; exact HB.out.size) hE)
            have HA5 := hid (HA.out.ext hE fun k hk => Nat.lt_of_lt_of_le (HK.out k hk) (by rw [← HB1.out]; exact HB.out.size))
            clear HB HA
            have HB := HB5; have HA := HA5
            clear HB5 HA5 hE c2 b0 b1 b2
            obtain ⟨c2, b0, b1, b2⟩ := HC.out _ HB.out
            have hbl2 := HB.out.size
            rw [HB1.out] at hbl2
            clear e14
            go_wp2_with fail
            apply wp_drawn [isV _, isV _, isV _, isV _, isV _, isV _, isV _, isV _, isV _, isV _, isV _] (by kernel_rfl)
            · kernel_rfl
            · refine ⟨?rjs0, ?rjs1, ?rjs2, ?rjs3, ?rjs4, ?rjs5, ?rjs6, ?rjs7, ?rjs8, ?rjs9, ?rjs10, trivial⟩
              case rjs0 =>
                intro v W hE hd; simp only [Region.wanted, ↓reduceIte]; (try simp [deps, waitsOn, Region.binds, knowing, isV, ownsV, anyV] at hd); simp only [putAll, List.take_succ_cons, List.take_zero, List.drop_succ_cons, List.drop_zero, Act.put, List.setIfInBounds_toArray, List.set_cons_zero, List.set_cons_succ, Nat.zero_add, Nat.reduceAdd]; go_simp; exact ⟨Below.refl _ _, rfl⟩
              case rjs1 =>
                intro v W hE hd; simp only [Region.wanted, ↓reduceIte]; (try simp [deps, waitsOn, Region.binds, knowing, isV, ownsV, anyV] at hd); simp only [putAll, List.take_succ_cons, List.take_zero, List.drop_succ_cons, List.drop_zero, Act.put, List.setIfInBounds_toArray, List.set_cons_zero, List.set_cons_succ, Nat.zero_add, Nat.reduceAdd]; go_simp; exact ⟨Below.refl _ _, rfl⟩
              case rjs2 =>
                intro v W hE hd; simp only [Region.wanted, ↓reduceIte]; (try simp [deps, waitsOn, Region.binds, knowing, isV, ownsV, anyV] at hd); simp only [putAll, List.take_succ_cons, List.take_zero, List.drop_succ_cons, List.drop_zero, Act.put, List.setIfInBounds_toArray, List.set_cons_zero, List.set_cons_succ, Nat.zero_add, Nat.reduceAdd]; go_simp; exact ⟨Below.refl _ _, rfl⟩
              case rjs3 =>
                intro v W hE hd; simp only [Region.wanted, ↓reduceIte]; (try simp [deps, waitsOn, Region.binds, knowing, isV, ownsV, anyV] at hd); simp only [putAll, List.take_succ_cons, List.take_zero, List.drop_succ_cons, List.drop_zero, Act.put, List.setIfInBounds_toArray, List.set_cons_zero, List.set_cons_succ, Nat.zero_add, Nat.reduceAdd]
                have e1 := cell_below hE c2
                go_simp
                exact ⟨Below.refl _ _, rfl⟩
              case rjs4 =>
                intro v W hE hd; simp only [Region.wanted, ↓reduceIte]; (try simp [deps, waitsOn, Region.binds, knowing, isV, ownsV, anyV] at hd); simp only [putAll, List.take_succ_cons, List.take_zero, List.drop_succ_cons, List.drop_zero, Act.put, List.setIfInBounds_toArray, List.set_cons_zero, List.set_cons_succ, Nat.zero_add, Nat.reduceAdd]; go_simp; exact ⟨Below.refl _ _, rfl⟩
              case rjs5 =>
                intro v W hE hd; simp only [Region.wanted, ↓reduceIte]; (try simp [deps, waitsOn, Region.binds, knowing, isV, ownsV, anyV] at hd); simp only [putAll, List.take_succ_cons, List.take_zero, List.drop_succ_cons, List.drop_zero, Act.put, List.setIfInBounds_toArray, List.set_cons_zero, List.set_cons_succ, Nat.zero_add, Nat.reduceAdd]; go_simp; exact ⟨Below.refl _ _, rfl⟩
              case rjs6 =>
                intro v W hE hd; simp only [Region.wanted, ↓reduceIte]; (try simp [deps, waitsOn, Region.binds, knowing, isV, ownsV, anyV] at hd); simp only [putAll, List.take_succ_cons, List.take_zero, List.drop_succ_cons, List.drop_zero, Act.put, List.setIfInBounds_toArray, List.set_cons_zero, List.set_cons_succ, Nat.zero_add, Nat.reduceAdd]; go_simp; exact ⟨Below.refl _ _, rfl⟩
              case rjs7 =>
                intro v W hE hd; simp only [Region.wanted, ↓reduceIte]; (try simp [deps, waitsOn, Region.binds, knowing, isV, ownsV, anyV] at hd); simp only [putAll, List.take_succ_cons, List.take_zero, List.drop_succ_cons, List.drop_zero, Act.put, List.setIfInBounds_toArray, List.set_cons_zero, List.set_cons_succ, Nat.zero_add, Nat.reduceAdd]
                have e1 := cell_below hE (HX.out _ HB.out).1
                go_simp
                exact ⟨Below.refl _ _, rfl⟩
              case rjs8 =>
                intro v W hE hd; simp only [Region.wanted, ↓reduceIte]; (try simp [deps, waitsOn, Region.binds, knowing, isV, ownsV, anyV] at hd); simp only [putAll, List.take_succ_cons, List.take_zero, List.drop_succ_cons, List.drop_zero, Act.put, List.setIfInBounds_toArray, List.set_cons_zero, List.set_cons_succ, Nat.zero_add, Nat.reduceAdd]; go_simp; exact ⟨Below.refl _ _, rfl⟩
              case rjs9 =>
                intro v W hE hd; simp only [Region.wanted, ↓reduceIte]; (try simp [deps, waitsOn, Region.binds, knowing, isV, ownsV, anyV] at hd); simp only [putAll, List.take_succ_cons, List.take_zero, List.drop_succ_cons, List.drop_zero, Act.put, List.setIfInBounds_toArray, List.set_cons_zero, List.set_cons_succ, Nat.zero_add, Nat.reduceAdd]
                have e1 := cell_below hE b0
                go_simp
                exact ⟨Below.refl _ _, rfl⟩
              case rjs10 =>
                intro v W hE hd; simp only [Region.wanted, ↓reduceIte]; (try simp [deps, waitsOn, Region.binds, knowing, isV, ownsV, anyV] at hd); simp only [putAll, List.take_succ_cons, List.take_zero, List.drop_succ_cons, List.drop_zero, Act.put, List.setIfInBounds_toArray, List.set_cons_zero, List.set_cons_succ, Nat.zero_add, Nat.reduceAdd]; go_simp; exact ⟨Below.refl _ _, rfl⟩
            · rintro v W hE ⟨-, -, -, -, -, -, -, -, -, -, e10, -⟩
              have e10 := (show v 10 = _ from e10)
              simp only [putAll, List.take_succ_cons, List.take_zero, List.drop_succ_cons, List.drop_zero, Act.put, List.setIfInBounds_toArray, List.set_cons_zero, List.set_cons_succ, Nat.zero_add, Nat.reduceAdd]
              rw [e10]
              have HB5 := hid (below_then HB.out (by rw [← HB1.out]; exact HB.out.size) hE)
              have HA5 := hid (HA.out.ext hE fun k hk => Nat.lt_of_lt_of_le (HK.out k hk) (by rw [← HB1.out]; exact HB.out.size))
              clear HB HA
              have HB := HB5; have HA := HA5
              clear HB5 HA5 hE c2 b0 b1 b2
              obtain ⟨c2, b0, b1, b2⟩ := HC.out _ HB.out
              have hbl2 := HB.out.size
              rw [HB1.out] at hbl2
              clear e10
              -- the element is appended
              obtain ⟨x0, x1, x2⟩ := HX.out _ HB.out
              have Hbx := hid (box_row (d := [.string (str a), .slice A1 n1 c1, .int .i64 (x.2.safe : Int)]) (RFile.ext Hd.out (HS0.out _ HB.out)) (fun k hk => Nat.lt_of_lt_of_le (HK.out k hk) hbl2) 75)
              have HAb := hid (HA.out.ext ((Below.refl _ _).alloc (Nat.le_refl _) (.cells #[.string (str a), .slice A1 n1 c1, .int .i64 (x.2.safe : Int)] 75)) fun k hk => Nat.lt_of_lt_of_le (HK.out k hk) hbl2)
              have HBb := hid (HB.out.alloc hbl2 (.cells #[.string (str a), .slice A1 n1 c1, .int .i64 (x.2.safe : Int)] 75))
              go_wp2_with (at_builtin; refine wpList_appK (w0 := W1) (R := RFile) (xs := acc) (base := B) finfo rfl (.tmp 47) (.tmp 55) rfl rfl HAb HK HBb (by simp; omega) (some ⟨W.heap.size, 0, none⟩) 1 1 [x] rfl rfl Hbx (by first | omega | (simp; omega)) (by first | omega | (simp; omega)) ?_; intro v2 W2 HA2 HB2 _)
              go_roundw
              case rel => exact ⟨k + 1, true, _, by omega, by simp at hacc ⊢; omega, by go_num, rfl, HA2, HB2, HG2⟩
              case measure => simp [intOf]; omega
    · obtain rfl : k = N := by omega
      have hdrop : F.drop k = [] := List.drop_eq_nil_of_le (by have := HN.out; omega)
      rw [hdrop] at HG
      obtain ⟨c2, b0, b1, b2⟩ := HC.out _ HB.out
      cases done
      · have HG2 := hid (show acc ++ [p] = putF p.1 p.2 F from (by rw [← putGo_eq p F H.out.up]; exact HG.out))
        have Hbx := hid (box_row (d := [.string (str nm), .slice A n0 c, .int .i64 (p.2.safe : Int)]) (RFile.ext Hrel.out (HS0.out _ HB.out)) (fun k hk => Nat.lt_of_lt_of_le (HK.out k hk) hbl2) 75)
        have HAb := hid (HA.out.ext ((Below.refl _ _).alloc (Nat.le_refl _) (.cells #[.string (str nm), .slice A n0 c, .int .i64 (p.2.safe : Int)] 75)) fun k hk => Nat.lt_of_lt_of_le (HK.out k hk) hbl2)
        have HBb := hid (HB.out.alloc hbl2 (.cells #[.string (str nm), .slice A n0 c, .int .i64 (p.2.safe : Int)] 75))
        have hacc2 : acc.length ≤ 201 := by have := Bool.toNat_le false; omega
        have HFZ : Hid (∀ wr : World, Below B W1 wr → wr.frozen? ⟨y, 2, none⟩ = false) := fun wr hb => (hb.frozen (p := ⟨y, 2, none⟩) hyB).trans ((World.frozen?_of_block (a := ⟨y, 2, none⟩) (E1.out.block y (by omega))).trans (H.out.free 2))
        go_wp2_with (at_builtin; refine wpList_appK (w0 := W1) (R := RFile) (xs := acc) (base := B) finfo rfl (.tmp 59) (.tmp 61) rfl rfl HAb HK HBb (by simp; omega) (some ⟨wr.heap.size, 0, none⟩) 1 1 [p] rfl rfl Hbx (by omega) (by omega) ?_; intro v2 W2 HA2 HB2 _; obtain ⟨A9, c9, cs9, rfl, -⟩ := HA2.out.read; have c2' := (HC.out _ HB2.out).1; have hfz := HFZ.out _ HB2.out)
        rw [HG2.out] at HA2
        have hlen : (putF p.1 p.2 F).length = acc.length + 1 := by rw [← HG2.out]; simp
        rw [hlen] at HA2
        clear hlen
        go_wp2
        go_end0
        rw [show putF nm p.2 F = putF p.1 p.2 F by rw [Hnm.out]]
        exact ⟨rfl, ref_stored H.out Hok.out Hfew.out (Below.trans (E1.out.mono (Nat.le_refl _)) (HB2.out.mono (by have := HWsz.out; omega))) HA2.out (by have := HWsz.out; omega)⟩
      · have HG2 := hid (show acc = putF p.1 p.2 F from (by rw [← putGo_eq p F H.out.up, ← HG.out]; simp [putGo]))
        have hfz : wr.frozen? ⟨y, 2, none⟩ = false := (HB.out.frozen (p := ⟨y, 2, none⟩) hyB).trans ((World.frozen?_of_block (a := ⟨y, 2, none⟩) (E1.out.block y (by omega))).trans (H.out.free 2))
        rw [HG2.out] at HA
        obtain ⟨A9, c9, cs9, e9, -⟩ := HA.out.read
        subst e9
        go_wp2
        go_end0
        rw [show putF nm p.2 F = putF p.1 p.2 F by rw [Hnm.out]]
        exact ⟨rfl, ref_stored H.out Hok.out Hfew.out (Below.trans (E1.out.mono (Nat.le_refl _)) (HB.out.mono (by have := HWsz.out; omega))) HA.out (by have := HWsz.out; omega)⟩
end Go.Proofs.YtpipmkaljkhgiaaDoor
