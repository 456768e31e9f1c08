/- A save that a crash interrupts: what is loaded behind it. Plain. -/
import Derived.Test.YtakebdeldndaaaaGreatDoorSv
namespace Go.Proofs.YtakebdeldndaaaaGreatDoor
open Go Go.RowKit
set_option linter.unusedSimpArgs false
set_option linter.unusedVariables false

theorem app_two' {q l : Int} {f : File} {bs : List UInt8} (hl : l ≠ 0) (h1 : bs.length ≤ 65536) (h2 : ((f.b.length + bs.length : Nat) : Int) ≤ q) :
    appE q l [(nmC, f)] nmN bs = 0 ∧ appF q l [(nmC, f)] nmN bs = [(nmC, f), (nmN, ⟨bs, 0⟩)] := by
  have e : appE q l [(nmC, f)] nmN bs = 0 := by
    unfold appE oldF
    rw [at_C_N]
    simp only [Option.getD_none, List.length_nil]
    rw [if_neg hl, if_neg (by rw [may_nmN]; decide), if_neg (by rintro (h | h); omega; have := h.2; simp at this), if_neg (by simp [usedF]; omega)]
  refine ⟨e, ?_⟩
  unfold appF oldF
  rw [if_pos e, at_C_N, (put_two f f _).1]; rfl
theorem step0_over (q : Int) (b : List UInt8) (l : Int) (f : File) : stepS q b 0 l [(nmC, f)] = (0, l, [(nmC, f)]) := by simp only [stepS, goneS, at_C_N]; rfl
theorem step1_over {q : Int} {b : List UInt8} {l : Int} {f : File} (h1 : b.length ≤ 65536) (h2 : ((f.b.length + b.length : Nat) : Int) ≤ q) :
    stepS q b 1 l [(nmC, f)] = if l = 0 then (14, 0, [(nmC, f)]) else (0, burnL l, [(nmC, f), (nmN, ⟨b, 0⟩)]) := by
  by_cases hl : l = 0
  · subst hl
    rw [if_pos rfl]
    have e : appE q 0 [(nmC, f)] nmN b = 14 := by unfold appE; rw [if_pos rfl]
    have e2 : appF q 0 [(nmC, f)] nmN b = [(nmC, f)] := by unfold appF; rw [e, if_neg (by decide)]
    simp only [stepS, e, e2]; rfl
  · rw [if_neg hl]
    obtain ⟨g1, g2⟩ := app_two' (q := q) (f := f) (bs := b) hl h1 h2
    simp only [stepS, g1, g2]; rfl
theorem step2_over {q : Int} {b : List UInt8} {l : Int} {f : File} :
    stepS q b 2 l [(nmC, f), (nmN, ⟨b, 0⟩)] = if l = 0 then (14, 0, [(nmC, f), (nmN, ⟨b, 0⟩)]) else (0, burnL l, [(nmC, f), (nmN, ⟨b, b.length⟩)]) := by
  by_cases hl : l = 0
  · subst hl; rfl
  · rw [if_neg hl]
    have g1 : knownEF l [(nmC, f), (nmN, ⟨b, 0⟩)] nmN = 0 := by unfold knownEF; rw [if_neg hl, (at_two f _).2]; rfl
    have g2 : syncF l [(nmC, f), (nmN, ⟨b, 0⟩)] nmN = [(nmC, f), (nmN, ⟨b, b.length⟩)] := by unfold syncF; rw [if_neg hl, (at_two f _).2]; exact (put_two f _ _).2
    simp only [stepS, g1, g2]; rfl
theorem step3_over {q : Int} {b : List UInt8} {l : Int} {f g : File} :
    stepS q b 3 l [(nmC, f), (nmN, g)] = if l = 0 then (14, 0, [(nmC, f), (nmN, g)]) else (0, burnL l, [(nmN, g)]) := by
  have hn : atF [(nmC, f), (nmN, g)] nmC ≠ none := by rw [(at_two f g).1]; simp
  by_cases hl : l = 0
  · subst hl
    rw [if_pos rfl]
    rw [show stepS q b 3 0 [(nmC, f), (nmN, g)] = goneS 0 [(nmC, f), (nmN, g)] nmC from rfl]
    unfold goneS
    rw [if_neg hn]; rfl
  · rw [if_neg hl]
    have g1 : knownEF l [(nmC, f), (nmN, g)] nmC = 0 := by unfold knownEF; rw [if_neg hl, (at_two f _).1]; rfl
    have g2 : dropF l [(nmC, f), (nmN, g)] nmC = [(nmN, g)] := by unfold dropF; rw [if_neg hl, (at_two f _).1]; exact (del_two f _).1
    rw [show stepS q b 3 l [(nmC, f), (nmN, g)] = goneS l [(nmC, f), (nmN, g)] nmC from rfl]
    unfold goneS
    rw [if_neg hn, g1, g2]
theorem step4_over {q : Int} {b : List UInt8} {l : Int} {g : File} :
    stepS q b 4 l [(nmN, g)] = if l = 0 then (14, 0, [(nmN, g)]) else (0, burnL l, [(nmC, g)]) := by
  by_cases hl : l = 0
  · subst hl
    rw [if_pos rfl]
    have e : renEF 0 [(nmN, g)] nmN nmC = 14 := rfl
    have e2 : renF 0 [(nmN, g)] nmN nmC = [(nmN, g)] := by
      unfold renF
      rw [atF_one]
      show (if renEF 0 [(nmN, g)] nmN nmC = 0 then _ else _) = _
      rw [e, if_neg (by decide)]
    show (renEF 0 [(nmN, g)] nmN nmC, burnL 0, renF 0 [(nmN, g)] nmN nmC) = _
    rw [e, e2]; rfl
  · rw [if_neg hl]
    have e : renEF l [(nmN, g)] nmN nmC = 0 := by
      unfold renEF
      rw [if_neg hl, atF_one, if_neg (by simp), if_neg (by rw [may_nmC]; decide), at_N_C]; rfl
    have e2 : renF l [(nmN, g)] nmN nmC = [(nmC, g)] := by
      unfold renF
      rw [atF_one]
      show (if renEF l [(nmN, g)] nmN nmC = 0 then _ else _) = _
      rw [e, if_pos rfl, (del_two g g).2.2, putF_nil]
    show (renEF l [(nmN, g)] nmN nmC, burnL l, renF l [(nmN, g)] nmN nmC) = _
    rw [e, e2]
theorem save_fuse {q : Int} {b : List UInt8} {f : File} (h1 : b.length ≤ 65536) (h2 : ((f.b.length + b.length : Nat) : Int) ≤ q) {l : Int} (hl : 0 ≤ l) :
    ∃ l', saveS q b l [(nmC, f)] = (14, l', [(nmC, f)]) ∨ saveS q b l [(nmC, f)] = (14, l', [(nmC, f), (nmN, ⟨b, 0⟩)]) ∨ saveS q b l [(nmC, f)] = (14, l', [(nmC, f), (nmN, ⟨b, b.length⟩)]) ∨
      saveS q b l [(nmC, f)] = (14, l', [(nmN, ⟨b, b.length⟩)]) ∨ saveS q b l [(nmC, f)] = (0, l', [(nmC, ⟨b, b.length⟩)]) := by
  unfold saveS
  rw [show (5 : Nat) = 5 - 0 from rfl, restS_step q b 0 _ _ (by decide), step0_over, if_pos rfl]
  dsimp only
  rw [restS_step q b 1 _ _ (by decide), step1_over h1 h2]
  by_cases c1 : l = 0
  · rw [if_pos c1]
    exact ⟨0, .inl rfl⟩
  rw [if_neg c1]
  dsimp only
  rw [if_pos rfl, restS_step q b 2 _ _ (by decide), step2_over]
  by_cases c2 : burnL l = 0
  · rw [if_pos c2]
    exact ⟨0, .inr (.inl rfl)⟩
  rw [if_neg c2]
  dsimp only
  rw [if_pos rfl, restS_step q b 3 _ _ (by decide), step3_over]
  by_cases c3 : burnL (burnL l) = 0
  · rw [if_pos c3]
    exact ⟨0, .inr (.inr (.inl rfl))⟩
  rw [if_neg c3]
  dsimp only
  rw [if_pos rfl, restS_step q b 4 _ _ (by decide), step4_over]
  by_cases c4 : burnL (burnL (burnL l)) = 0
  · rw [if_pos c4]
    exact ⟨0, .inr (.inr (.inr (.inl rfl)))⟩
  rw [if_neg c4]
  dsimp only
  rw [if_pos rfl]
  exact ⟨_, .inr (.inr (.inr (.inr rfl)))⟩
theorem load_ahead {ds : List DefV} {last most : Int} {V : List (DefV × Ents)} {k : Nat} {F : Files} (hd : defsE ds = 0) (hl : 0 ≤ last ∧ last ≤ 1048576) (hV : V.map (·.1) = ds) (hf : PutFit V) (hok : ∀ x ∈ V, okE x.1 x.2 = true)
    (hat : atF F nmC = some ⟨Crc.seal_ (ckB ds last V), k⟩ ∨ (atF F nmC = none ∧ atF F nmN = some ⟨Crc.seal_ (ckB ds last V), k⟩)) (hm : last ≤ most) : loadR ds F most = (last, V) := by
  have ht : ∀ nm, atF F nm = some ⟨Crc.seal_ (ckB ds last V), k⟩ → tryO ds F nm most = some (last, V.map (·.2)) := fun nm h => by
    unfold tryO
    rw [h]
    dsimp only
    rw [take_put hd hl hV hf hok]
    exact if_pos hm
  have hz : ds.zip (V.map (·.2)) = V := by rw [← hV, zip_unzip]
  unfold loadR
  rcases hat with h | ⟨h, h2⟩
  · rw [ht nmC h]
    dsimp only
    rw [hz]
  · have e : tryO ds F nmC most = none := by unfold tryO; rw [h]
    rw [e, ht nmN h2]
    dsimp only
    rw [hz]
theorem crash_load {q : Int} {ds : List DefV} {V1 V2 : List (DefV × Ents)} {keep l most : Int} (hd : defsE ds = 0) (hV1 : V1.map (·.1) = ds) (hf1 : PutFit V1) (hok1 : ∀ x ∈ V1, okE x.1 x.2 = true)
    (hV2 : V2.map (·.1) = ds) (hf2 : PutFit V2) (hok2 : ∀ x ∈ V2, okE x.1 x.2 = true) {z1 z2 : Int} (hz1 : 0 ≤ z1 ∧ z1 ≤ 1048576) (hz2 : 0 ≤ z2 ∧ z2 ≤ 1048576) (hm1 : z1 ≤ most) (hm2 : z2 ≤ most)
    (h1 : (Crc.seal_ (ckB ds z2 V2)).length ≤ 65536) (h2 : (((Crc.seal_ (ckB ds z1 V1)).length + (Crc.seal_ (ckB ds z2 V2)).length : Nat) : Int) ≤ q) (hl : 0 ≤ l) :
    ∃ x l' F', saveS q (Crc.seal_ (ckB ds z2 V2)) l [(nmC, ⟨Crc.seal_ (ckB ds z1 V1), (Crc.seal_ (ckB ds z1 V1)).length⟩)] = (x, l', F') ∧
      ((x = 14 ∧ loadR ds (crashF keep F') most = (z1, V1)) ∨ ((x = 14 ∨ x = 0) ∧ loadR ds (crashF keep F') most = (z2, V2))) := by
  obtain ⟨l', h⟩ := save_fuse (q := q) (b := Crc.seal_ (ckB ds z2 V2)) (f := ⟨Crc.seal_ (ckB ds z1 V1), (Crc.seal_ (ckB ds z1 V1)).length⟩) h1 h2 hl
  have hC : ∀ b : List UInt8, crash1 keep ⟨b, b.length⟩ = ⟨b, b.length⟩ := fun b => by unfold crash1 crashN; simp
  have two : ∀ f g : File, crashF keep [(nmC, f), (nmN, g)] = [(nmC, crash1 keep f), (nmN, crash1 keep g)] := fun _ _ => rfl
  rcases h with h | h | h | h | h
  · exact ⟨14, l', _, h, .inl ⟨rfl, load_ahead hd hz1 hV1 hf1 hok1 (.inl (by rw [crash_one, hC, atF_one])) hm1⟩⟩
  · exact ⟨14, l', _, h, .inl ⟨rfl, load_ahead hd hz1 hV1 hf1 hok1 (.inl (by rw [two, hC, (at_two _ _).1])) hm1⟩⟩
  · exact ⟨14, l', _, h, .inl ⟨rfl, load_ahead hd hz1 hV1 hf1 hok1 (.inl (by rw [two, hC, (at_two _ _).1])) hm1⟩⟩
  · exact ⟨14, l', _, h, .inr ⟨.inl rfl, load_ahead hd hz2 hV2 hf2 hok2 (.inr (by rw [crash_one, hC]; exact ⟨at_N_C _, atF_one _ _⟩)) hm2⟩⟩
  · exact ⟨0, l', _, h, .inr ⟨.inr rfl, load_ahead hd hz2 hV2 hf2 hok2 (.inl (by rw [crash_one, hC, atF_one])) hm2⟩⟩
end Go.Proofs.YtakebdeldndaaaaGreatDoor

