/- Headers; wiping and laying, through whatever fuse (plain). -/
import Derived.Test.YtifhbgppjblobaaLogT
namespace Go.Proofs.Ytifhbgppjblobaa
open Go Go.VX Go.RowKit
set_option linter.unusedVariables false
set_option linter.unusedSimpArgs false
set_option maxHeartbeats 20000000
set_option maxRecDepth 100000

theorem tear_get {t : Nat} {b s : List Int} (hb : b.length ≤ 32) (ht : t ≤ 32) (i : Nat) : (tear t b s)[i]? = if i < t then (pad b)[i]? else s[i]? := by
  have hl : ((pad b).take t).length = t := by rw [List.length_take, pad_length hb]; omega
  unfold tear
  split
  · rw [List.getElem?_append_left (by omega), List.getElem?_take, if_pos ‹_›]
  · rw [List.getElem?_append_right (by omega), hl, List.getElem?_drop]
    congr 1; omega
theorem pad_nil : pad [] = List.replicate 32 0 := by simp [pad]
theorem pad_nil_get (i : Nat) : (pad [])[i]? = if i < 32 then some 0 else none := by
  rw [pad_nil, List.getElem?_replicate]
theorem tear_31 {t : Nat} {b s : List Int} (hb : b.length ≤ 32) (ht : t < 32) : (tear t b s).getD 31 0 = s.getD 31 0 := by
  rw [List.getD_eq_getElem?_getD, tear_get hb (by omega), if_neg (by omega), ← List.getD_eq_getElem?_getD]
theorem tear_nil31 {t : Nat} {s : List Int} (ht : t ≤ 32) (h : s.getD 31 0 = 0) : (tear t [] s).getD 31 0 = 0 := by
  rw [List.getD_eq_getElem?_getD, tear_get (by simp) ht]
  split
  · rw [pad_nil_get]; simp
  · rw [← List.getD_eq_getElem?_getD, h]
theorem tear_tear {t u : Nat} {s : List Int} (ht : t ≤ 32) (hu : u ≤ 32) : tear t [] (tear u [] s) = tear (max t u) [] s := by
  apply List.ext_getElem?
  intro i
  rw [tear_get (by simp) ht, tear_get (by simp) hu, tear_get (by simp) (by omega)]
  by_cases h1 : i < t
  · rw [if_pos h1, if_pos (by omega)]
  · rw [if_neg h1]
    by_cases h2 : i < u
    · rw [if_pos h2, if_pos (by omega)]
    · rw [if_neg h2, if_neg (by omega)]
theorem tell_mono : ∀ (l l' : List Int) (a a' : Nat), a ≤ a' → l.length = l'.length → (∀ i, (l.getD i 0).toNat ≤ (l'.getD i 0).toNat) → l.foldl (fun n c => n * 256 + c.toNat) a ≤ l'.foldl (fun n c => n * 256 + c.toNat) a'
  | [], [], a, a', h, _, _ => h
  | [], _ :: _, a, a', h, hl, _ => by simp at hl
  | _ :: _, [], a, a', h, hl, _ => by simp at hl
  | x :: l, y :: l', a, a', h, hl, hi => by
    rw [List.foldl_cons, List.foldl_cons]
    have h0 := hi 0
    simp only [List.getD_cons_zero] at h0
    exact tell_mono l l' _ _ (by omega) (by simpa using hl) fun i => by simpa using hi (i + 1)
theorem head_pre (gen : Nat) : (laidB gen 4 ++ laidB (moreN 0 (laidB gen 4)) 4).length ≤ 31 := by simp [laidB_len]
theorem head_31 (gen : Nat) : (headL gen).getD 31 0 = 165 := markL_31 (head_pre gen)
theorem head_4 (gen : Nat) : (headL gen).take 4 = laidB gen 4 := by
  unfold headL markL
  rw [List.append_assoc, List.append_assoc, List.take_append_of_le_length (by rw [laidB_len]; omega), List.take_of_length_le (by rw [laidB_len]; omega)]
theorem head_tell {gen : Nat} (h : gen < 4294967296) : tellN ((headL gen).take 4) = gen := by rw [head_4, laidB_tell4 h]
theorem pad_head (gen : Nat) : pad (headL gen) = headL gen := by simp [pad, headL_len]
theorem genL_head {d : Dk} {n h gen : Nat} (hg : gen ≤ 2147483647) (hh : d.at n h 0 = headL gen) : genL d n h = gen := by
  unfold Dk.at at hh
  rw [Nat.add_zero] at hh
  unfold genL
  rw [hh, head_tell (by omega), if_neg]
  rintro (q | q)
  · omega
  · exact q rfl
/-- A header's sector that tells nothing that counts. -/
def Oth (s : List Int) (gen : Nat) : Prop := s.getD 31 0 = 0 ∨ ∃ g t, g < gen ∧ t ≤ 32 ∧ s = tear t [] (headL g)
theorem oth_mono {s : List Int} {g g' : Nat} (h : Oth s g) (hg : g ≤ g') : Oth s g' := by
  rcases h with h | ⟨x, t, h1, h2, h3⟩
  · exact .inl h
  · exact .inr ⟨x, t, by omega, h2, h3⟩
theorem oth_tear {s : List Int} {gen t : Nat} (h : Oth s gen) (ht : t ≤ 32) : Oth (tear t [] s) gen := by
  rcases h with h | ⟨g, u, h1, h2, h3⟩
  · exact .inl (tear_nil31 ht h)
  · refine .inr ⟨g, max t u, h1, by omega, ?_⟩
    rw [h3, tear_tear ht h2]
theorem oth_gen {d : Dk} {n h gen : Nat} (h0 : 1 ≤ gen) (hg : gen ≤ 4294967295) (ho : Oth (d.at n h 0) gen) : genL d n h < gen := by
  unfold Dk.at at ho
  rw [Nat.add_zero] at ho
  unfold genL
  split
  · omega
  · rename_i hq
    have he : d.sector (h * (n / 2)) = headL (tellN ((d.sector (h * (n / 2))).take 4)) := by
      by_cases e : d.sector (h * (n / 2)) = headL (tellN ((d.sector (h * (n / 2))).take 4))
      · exact e
      · exact absurd (.inr e) hq
    rcases ho with ho | ⟨g, t, h1, h2, h3⟩
    · rw [he, head_31] at ho
      omega
    · refine Nat.lt_of_le_of_lt ?_ h1
      have h4 : tellN ((d.sector (h * (n / 2))).take 4) ≤ tellN ((headL g).take 4) := by
        refine tell_mono _ _ 0 0 (Nat.le_refl _) ?_ fun i => ?_
        · rw [h3, List.length_take, List.length_take, tear_len (by simp) (headL_len g) h2, headL_len]
        · by_cases hi : i < 4
          · rw [take_getD hi, take_getD hi, h3, List.getD_eq_getElem?_getD, tear_get (by simp) h2]
            split
            · rw [pad_nil_get, if_pos (by omega)]; exact Nat.zero_le _
            · rw [List.getD_eq_getElem?_getD]; exact Nat.le_refl _
          · rw [List.getD_eq_getElem?_getD, List.getElem?_take, if_neg hi]; simp
      rw [head_tell (gen := g) (by omega)] at h4
      exact h4
theorem blank_eq {s : List Int} (hs : s.length = 32) (hb : blankB s = true) : s = pad [] := by
  rw [pad_nil]
  refine List.eq_replicate_iff.2 ⟨hs, fun x hx => ?_⟩
  unfold blankB at hb
  rw [List.all_eq_true] at hb
  simpa using hb x hx
theorem blank_nil : blankB (pad []) = true := by decide
theorem at_len {d : Dk} {n h i : Nat} (hd : d.ok n) (hh : h ≤ 1) (hi : i < n / 2) : (d.at n h i).length = 32 := sector_len hd (half_le hh hi)
theorem byteL_nil : byteL [] := fun x hx => by simp at hx
/-- What wiping does. -/
structure Wiped (n h down k : Nat) (d : Dk) (e : Int) (d' : Dk) : Prop where
  ok : d'.ok n
  byte : byteL d.B → byteL d'.B
  other : ∀ h' i, h' ≤ 1 → i < n / 2 → (h' ≠ h ∨ i < down ∨ down + k ≤ i) → d'.at n h' i = d.at n h' i
  it : ∀ i, down ≤ i → i < down + k → ∃ t, t ≤ 32 ∧ d'.at n h i = tear t [] (d.at n h i)
  all : e = 0 → ∀ i, down ≤ i → i < down + k → d'.at n h i = pad []
  e07 : e = 0 ∨ e = 7
theorem wipe_law {n h down : Nat} (hh : h ≤ 1) : ∀ (k : Nat) (g : Lg) (d : Dk), d.ok n → down + k ≤ n / 2 → Wiped n h down k d (wipeK n h down k g d).1 (wipeK n h down k g d).2.2 ∧ (wipeK n h down k g d).2.1.broken = (g.broken || !((wipeK n h down k g d).1 == 0)) ∧ (d.calm → (wipeK n h down k g d).1 = 0 ∧ (wipeK n h down k g d).2.2.calm)
  | 0, g, d, hd, hk => ⟨⟨hd, fun h => h, fun _ _ _ _ _ => rfl, fun i h1 h2 => by omega, fun _ i h1 h2 => by omega, .inl rfl⟩, by simp [wipeK], fun hc => ⟨rfl, hc⟩⟩
  | k + 1, g, d, hd, hk => by
    have hlt : h * (n / 2) + (down + k) < n := half_le hh (by omega)
    rw [wipeK]
    split
    · rename_i hb
      obtain ⟨ih, hbk, hcalm⟩ := wipe_law (h := h) (down := down) hh k g d hd (by omega)
      have hz : d.at n h (down + k) = pad [] := blank_eq (at_len hd hh (by omega)) hb
      have hsame := ih.other h (down + k) hh (by omega) (.inr (.inr (by omega)))
      refine ⟨⟨ih.ok, ih.byte, fun h' i h1 h2 h3 => ih.other h' i h1 h2 (by omega), fun i h1 h2 => ?_, fun he i h1 h2 => ?_, ih.e07⟩, hbk, hcalm⟩
      · by_cases e : i = down + k
        · subst e; exact ⟨0, by omega, by rw [hsame, tear_0]⟩
        · exact ih.it i h1 (by omega)
      · by_cases e : i = down + k
        · subst e; rw [hsame, hz]
        · exact ih.all he i h1 (by omega)
    · have hw := write_law hd hlt (b := []) (by simp)
      have hwc := fun hc : d.calm => write_calm hc hlt (b := []) (by simp)
      have hwb := fun hb : byteL d.B => write_byte (n := n) (a := ((h * (n / 2) + (down + k) : Nat) : Int)) hb [] byteL_nil
      obtain ⟨we, hwe⟩ : ∃ we, we = (d.write n ((h * (n / 2) + (down + k) : Nat) : Int) []).1 := ⟨_, rfl⟩
      obtain ⟨d1, hd1⟩ : ∃ d1, d1 = (d.write n ((h * (n / 2) + (down + k) : Nat) : Int) []).2 := ⟨_, rfl⟩
      rw [← hwe, ← hd1] at hw hwc ⊢
      rw [← hd1] at hwb
      have hoth : ∀ h' i, h' ≤ 1 → i < n / 2 → (h' ≠ h ∨ i ≠ down + k) → d1.at n h' i = d.at n h' i := fun h' i h1 h2 h3 => hw.other _ (half_ne hh h1 (by omega) h2 h3)
      split
      · rename_i he0
        obtain ⟨ih, hbk, hcalm⟩ := wipe_law (h := h) (down := down) hh k (g.wrote 0) d1 hw.ok (by omega)
        have hz : d1.at n h (down + k) = pad [] := by
          rcases hw.it with ⟨_, q⟩ | ⟨q, _⟩
          · exact q
          · omega
        have hsame := ih.other h (down + k) hh (by omega) (.inr (.inr (by omega)))
        refine ⟨⟨ih.ok, fun hb => ih.byte (hwb hb), fun h' i h1 h2 h3 => (ih.other h' i h1 h2 (by omega)).trans (hoth h' i h1 h2 (by omega)), fun i h1 h2 => ?_, fun he i h1 h2 => ?_, ih.e07⟩, ?_, fun hc => hcalm (hwc hc).2⟩
        · by_cases e : i = down + k
          · subst e
            refine ⟨32, by omega, ?_⟩
            rw [hsame, hz, tear_all (by simp) (at_len hd hh (by omega))]
          · obtain ⟨t, h3, h4⟩ := ih.it i h1 (by omega)
            rw [hoth h i hh (by omega) (.inr e)] at h4
            exact ⟨t, h3, h4⟩
        · by_cases e : i = down + k
          · subst e; rw [hsame, hz]
          · exact ih.all he i h1 (by omega)
        · rw [hbk]; simp [Lg.wrote]
      · rename_i he0
        obtain ⟨he7, t, ht, hst⟩ : we = 7 ∧ ∃ t, t ≤ 32 ∧ d1.sector (h * (n / 2) + (down + k)) = tear t [] (d.sector (h * (n / 2) + (down + k))) := by
          rcases hw.it with ⟨q, _⟩ | q
          · exact absurd q he0
          · exact q
        refine ⟨⟨hw.ok, hwb, fun h' i h1 h2 h3 => hoth h' i h1 h2 (by omega), fun i h1 h2 => ?_, fun he => absurd he he0, .inr he7⟩, rfl, fun hc => absurd (hwc hc).1 he0⟩
        by_cases e : i = down + k
        · subst e; exact ⟨t, ht, hst⟩
        · exact ⟨0, by omega, by rw [hoth h i hh (by omega) (.inr e), tear_0]⟩
/-- What laying does. -/
structure Laid (n h at_ : Nat) (ss : List (List Int)) (d : Dk) (e : Int) (d' : Dk) : Prop where
  ok : d'.ok n
  byte : byteL d.B → byteL d'.B
  other : ∀ h' i, h' ≤ 1 → i < n / 2 → (h' ≠ h ∨ i < at_ ∨ at_ + ss.length ≤ i) → d'.at n h' i = d.at n h' i
  it : (e = 0 ∧ ∀ (i : Nat) w, ss[i]? = some w → d'.at n h (at_ + i) = pad w) ∨ (e = 7 ∧ ∃ w0 t, ss[0]? = some w0 ∧ t ≤ 32 ∧ d'.at n h at_ = tear t w0 (d.at n h at_) ∧ (t = 0 ∨ ∀ (i : Nat) w, 1 ≤ i → ss[i]? = some w → d'.at n h (at_ + i) = pad w))
theorem lay_law {n h at_ : Nat} {ss : List (List Int)} (hh : h ≤ 1) (hp : at_ + ss.length ≤ n / 2) (h1s : 1 ≤ ss.length) (h32 : ∀ w ∈ ss, w.length ≤ 32) (hsb : ∀ w ∈ ss, byteL w) : ∀ (r : Nat) (g : Lg) (d : Dk), d.ok n → r ≤ ss.length → (∀ (i : Nat) w, ss[i]? = some w → (1 ≤ i ∧ i ≤ ss.length - r) ∨ (i = 0 ∧ r = 0) → d.at n h (at_ + i) = pad w) →
    Laid n h at_ ss d (layK n h at_ ss r g d).1 (layK n h at_ ss r g d).2.2 ∧ (layK n h at_ ss r g d).2.1.broken = (g.broken || !((layK n h at_ ss r g d).1 == 0)) ∧ (d.calm → (layK n h at_ ss r g d).1 = 0 ∧ (layK n h at_ ss r g d).2.2.calm)
  | 0, g, d, hd, hr, hpre => by
    refine ⟨⟨hd, fun h => h, fun _ _ _ _ _ => rfl, .inl ⟨rfl, fun i w hw => hpre i w hw ?_⟩⟩, by simp [layK], fun hc => ⟨rfl, hc⟩⟩
    have := (List.getElem?_eq_some_iff.1 hw).1
    omega
  | r + 1, g, d, hd, hr, hpre => by
    obtain ⟨k, hk⟩ : ∃ k, k = (ss.length - r) % ss.length := ⟨_, rfl⟩
    have hkl : k < ss.length := by rw [hk]; exact Nat.mod_lt _ (by omega)
    have hk2 : (r = 0 ∧ k = 0) ∨ (1 ≤ r ∧ k = ss.length - r ∧ 1 ≤ k) := by
      by_cases h0 : r = 0
      · left; rw [hk, h0, Nat.sub_zero, Nat.mod_self]; exact ⟨rfl, rfl⟩
      · right; rw [hk, Nat.mod_eq_of_lt (by omega)]; omega
    obtain ⟨b, hb⟩ := getI (l := ss) (i := k) (by omega)
    have hbd : ss.getD k [] = b := by rw [List.getD_eq_getElem?_getD, hb]; rfl
    obtain ⟨w0, hw0⟩ := getI (l := ss) (i := 0) (by omega)
    have hbm := List.mem_of_getElem? hb
    have hlt : h * (n / 2) + (at_ + k) < n := half_le hh (by omega)
    rw [layK, ← hk, hbd]
    have hw := write_law hd hlt (b := b) (h32 b hbm)
    have hwc := fun hc : d.calm => write_calm hc hlt (b := b) (h32 b hbm)
    have hwb := fun hq : byteL d.B => write_byte (n := n) (a := ((h * (n / 2) + (at_ + k) : Nat) : Int)) hq b (hsb b hbm)
    obtain ⟨we, hwe⟩ : ∃ we, we = (d.write n ((h * (n / 2) + (at_ + k) : Nat) : Int) b).1 := ⟨_, rfl⟩
    obtain ⟨d1, hd1⟩ : ∃ d1, d1 = (d.write n ((h * (n / 2) + (at_ + k) : Nat) : Int) b).2 := ⟨_, rfl⟩
    rw [← hwe, ← hd1] at hw hwc ⊢
    rw [← hd1] at hwb
    have hoth : ∀ h' i, h' ≤ 1 → i < n / 2 → (h' ≠ h ∨ i ≠ at_ + k) → d1.at n h' i = d.at n h' i := fun h' i h1 h2 h3 => hw.other _ (half_ne hh h1 (by omega) h2 h3)
    split
    · rename_i he0
      have hz : d1.at n h (at_ + k) = pad b := by
        rcases hw.it with ⟨_, q⟩ | ⟨q, _⟩
        · exact q
        · omega
      obtain ⟨ih, hbk, hcalm⟩ := lay_law (h := h) (at_ := at_) (ss := ss) hh hp h1s h32 hsb r (g.wrote 0) d1 hw.ok (by omega) (by
        intro i w hi hc
        have hil := (List.getElem?_eq_some_iff.1 hi).1
        by_cases e : i = k
        · subst e; rw [hb] at hi; cases hi; exact hz
        · rw [hoth h (at_ + i) hh (by omega) (.inr (by omega))]
          exact hpre i w hi (by omega))
      refine ⟨⟨ih.ok, fun hq => ih.byte (hwb hq), fun h' i h1 h2 h3 => (ih.other h' i h1 h2 h3).trans (hoth h' i h1 h2 (by omega)), ?_⟩, ?_, fun hc => hcalm (hwc hc).2⟩
      · rcases ih.it with q | ⟨q1, v0, t, q2, q3, q4, q5⟩
        · exact .inl q
        · refine .inr ⟨q1, v0, t, q2, q3, ?_, q5⟩
          have hr1 : 1 ≤ r := by
            rcases hk2 with ⟨a, c⟩ | ⟨a, c⟩
            · subst a; simp [layK] at q1
            · exact a
          rw [hoth h at_ hh (by omega) (.inr (by omega))] at q4
          exact q4
      · rw [hbk]; simp [Lg.wrote]
    · rename_i he0
      obtain ⟨he7, t, ht, hst⟩ : we = 7 ∧ ∃ t, t ≤ 32 ∧ d1.sector (h * (n / 2) + (at_ + k)) = tear t b (d.sector (h * (n / 2) + (at_ + k))) := by
        rcases hw.it with ⟨q, _⟩ | q
        · exact absurd q he0
        · exact q
      refine ⟨⟨hw.ok, hwb, fun h' i h1 h2 h3 => hoth h' i h1 h2 (by omega), .inr ⟨he7, w0, ?_⟩⟩, rfl, fun hc => absurd (hwc hc).1 he0⟩
      rcases hk2 with ⟨a, c⟩ | ⟨a, c⟩
      · rw [c] at hb hst
        rw [hw0] at hb
        cases hb
        refine ⟨t, hw0, ht, hst, .inr fun i w h1 hi => ?_⟩
        have hil := (List.getElem?_eq_some_iff.1 hi).1
        rw [hoth h (at_ + i) hh (by omega) (.inr (by omega))]
        exact hpre i w hi (.inl ⟨h1, by omega⟩)
      · refine ⟨0, hw0, by omega, ?_, .inl rfl⟩
        rw [hoth h at_ hh (by omega) (.inr (by omega)), tear_0]
end Go.Proofs.Ytifhbgppjblobaa
