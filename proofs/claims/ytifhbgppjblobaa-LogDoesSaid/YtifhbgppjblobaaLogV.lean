/- What a disk keeps of a log, through opening, Append and Only (plain). -/
import Derived.Test.YtifhbgppjblobaaLogU
namespace Go.Proofs.Ytifhbgppjblobaa
open Go Go.VX Go.RowKit
set_option linter.unusedVariables false
set_option linter.unusedSimpArgs false
set_option maxHeartbeats 20000000
set_option maxRecDepth 100000

structure Keeps (d : Dk) (n h gen : Nat) (rows : List (List Int)) (fin : Nat) : Prop where
  ok : d.ok n
  byte : byteL d.B
  n4 : 4 ≤ n
  hh : h ≤ 1
  g1 : 1 ≤ gen
  gm : gen ≤ 2147483647
  head : d.at n h 0 = headL gen
  oth : Oth (d.at n (1 - h) 0) gen
  chain : Chain d n h gen 1 0 rows fin
  stop : fin < n / 2 → (d.at n h fin).getD 31 0 = 0
def Blank (d : Dk) (n h fin : Nat) : Prop := ∀ i, fin ≤ i → i < n / 2 → d.at n h i = pad []
def Kept (d : Dk) (n : Nat) (rows : List (List Int)) : Prop := ∃ h gen fin, Keeps d n h gen rows fin
theorem Keeps.fins {d : Dk} {n h gen fin : Nat} {rows : List (List Int)} (k : Keeps d n h gen rows fin) : 1 + rows.length ≤ fin ∧ fin ≤ n / 2 := by
  have := k.n4
  exact chain_fin rows k.chain (by omega)
theorem Keeps.to {d d' : Dk} {n h gen fin : Nat} {rows : List (List Int)} (k : Keeps d n h gen rows fin) (hd : d'.ok n) (hb : byteL d'.B) (hs : ∀ i, i < fin → d'.at n h i = d.at n h i) (hz : fin < n / 2 → (d'.at n h fin).getD 31 0 = 0) (ho : Oth (d'.at n (1 - h) 0) gen) : Keeps d' n h gen rows fin :=
  ⟨hd, hb, k.n4, k.hh, k.g1, k.gm, by rw [hs 0 (by have := k.fins; omega)]; exact k.head, ho, chain_congr rows k.chain (by have := k.n4; omega) fun i _ h2 => hs i h2, hz⟩
theorem Keeps.gen0 {d : Dk} {n h gen fin : Nat} {rows : List (List Int)} (k : Keeps d n h gen rows fin) : genL d n h = gen := genL_head k.gm k.head
theorem Keeps.gen1 {d : Dk} {n h gen fin : Nat} {rows : List (List Int)} (k : Keeps d n h gen rows fin) : genL d n (1 - h) < gen := oth_gen k.g1 (by have := k.gm; omega) k.oth
theorem Keeps.recs {d : Dk} {n h gen fin : Nat} {rows : List (List Int)} (k : Keeps d n h gen rows fin) : recsL d n h gen = pairs gen 0 rows :=
  chain_recs rows (n / 2) k.chain (by omega) (by have := k.n4; omega) fun hlt => by rw [k.stop hlt]; omega
/-- A log at rest, over its disk. -/
structure Good (g : Lg) (d : Dk) (n : Nat) : Prop where
  keeps : Keeps d n g.half g.gen g.rows g.fin
  whole : g.broken = false
  blank : Blank d n g.half g.fin
theorem openR_law {d : Dk} {n h gen fin : Nat} {rows : List (List Int)} (k : Keeps d n h gen rows fin) (g : Lg) (hg1 : g.half = h) (hg2 : g.gen = gen) (hg3 : g.broken = false) :
    Keeps (openR d n g).2.2 n h gen rows fin ∧ ((openR d n g).1 = some ⟨h, gen, rows, fin, false⟩ ∧ (openR d n g).2.1 = 0 ∧ Blank (openR d n g).2.2 n h fin ∨ (openR d n g).1 = none ∧ (openR d n g).2.1 = 7) ∧ (d.calm → (openR d n g).2.1 = 0 ∧ (openR d n g).2.2.calm) := by
  have hf := k.fins
  have hr := k.recs
  obtain ⟨g1, hg1e⟩ : ∃ g1, g1 = g.had (recsL d n g.half g.gen) := ⟨_, rfl⟩
  have hgf : g1 = ⟨h, gen, rows, fin, false⟩ := by
    rw [hg1e, hg1, hg2, hr]
    unfold Lg.had
    rw [pairs_snd, chain_sum rows k.chain, hg1, hg2, hg3]
  have hw := wipe_law (n := n) (h := h) (down := fin) k.hh (n / 2 - fin) g1 d k.ok (by omega)
  have hkp := wipe_keeps (n := n) (h := h) (down := fin) (n / 2 - fin) g1 d
  have hop : openR d n g = if (wipeK n h fin (n / 2 - fin) g1 d).1 = 0 then (some (wipeK n h fin (n / 2 - fin) g1 d).2.1, 0, (wipeK n h fin (n / 2 - fin) g1 d).2.2) else (none, (wipeK n h fin (n / 2 - fin) g1 d).1, (wipeK n h fin (n / 2 - fin) g1 d).2.2) := by
    unfold openR
    rw [← hg1e, hg1]
    simp only [show g1.fin = fin by rw [hgf]]
  obtain ⟨W, hW⟩ : ∃ W, W = wipeK n h fin (n / 2 - fin) g1 d := ⟨_, rfl⟩
  rw [← hW] at hw hkp hop
  obtain ⟨e, g2, d2⟩ := W
  dsimp only at hw hkp hop
  obtain ⟨hw, hbk, hcalm⟩ := hw
  obtain ⟨k1, k2, k3, k4⟩ := hkp
  have hk' : Keeps d2 n h gen rows fin := by
    refine k.to hw.ok (hw.byte k.byte) (fun i hi => hw.other h i k.hh (by omega) (by omega)) (fun hlt => ?_) ?_
    · obtain ⟨t, ht, hq⟩ := hw.it fin (by omega) (by omega)
      rw [hq]
      exact tear_nil31 ht (k.stop hlt)
    · rw [hw.other (1 - h) 0 (by omega) (by omega) (by have := k.hh; omega)]
      exact k.oth
  rcases hw.e07 with he | he
  · subst he
    rw [if_pos rfl] at hop
    rw [hop]
    refine ⟨hk', .inl ⟨?_, rfl, fun i h1 h2 => hw.all rfl i h1 (by omega)⟩, fun hc => ⟨rfl, (hcalm hc).2⟩⟩
    rw [hgf] at k1 k2 k3 k4 hbk
    obtain ⟨a1, a2, a3, a4, a5⟩ := g2
    simp only at k1 k2 k3 k4 hbk
    simp [k1, k2, k3, k4, hbk]
  · rw [if_neg (by omega)] at hop
    rw [hop]
    exact ⟨hk', .inr ⟨rfl, he⟩, fun hc => absurd (hcalm hc).1 (by omega)⟩
theorem open_law {d : Dk} {n h gen fin : Nat} {rows : List (List Int)} (k : Keeps d n h gen rows fin) :
    Keeps (openL d n).2.2 n h gen rows fin ∧ ((openL d n).1 = some ⟨h, gen, rows, fin, false⟩ ∧ (openL d n).2.1 = 0 ∧ Blank (openL d n).2.2 n h fin ∨ (openL d n).1 = none ∧ (openL d n).2.1 = 7) ∧ (d.calm → (openL d n).2.1 = 0 ∧ (openL d n).2.2.calm) := by
  have h4 := k.n4
  have h0 := k.gen0
  have h1 := k.gen1
  have hg := k.g1
  have hh := k.hh
  have hm : max (genL d n 0) (genL d n 1) = gen ∧ (if genL d n 0 < genL d n 1 then 1 else 0) = h := by
    have : h = 0 ∨ h = 1 := by omega
    rcases this with e | e
    · subst e
      rw [h0]
      simp only [Nat.sub_zero] at h1
      exact ⟨by omega, by rw [if_neg (by omega)]⟩
    · subst e
      rw [h0]
      simp only [Nat.sub_self] at h1
      exact ⟨by omega, by rw [if_pos (by omega)]⟩
  have hop : openL d n = openR d n { Lg.new gen with half := h } := by
    unfold openL
    rw [if_neg (by omega), hm.1, hm.2, if_neg (by omega)]
  rw [hop]
  exact openR_law k _ rfl rfl rfl
theorem sec_byte {b : List Int} {gen place : Nat} (hb : byteL b) : ∀ w ∈ secL b gen place, byteL w := by
  intro w hw
  rcases List.mem_cons.1 hw with e | hw
  · rw [e]
    exact markL_byte (byteL_append (byteL_append (topL_byte _ _ _) (laidB_byte _ _)) (take_byte hb _))
  · simp only [chs, List.mem_map] at hw
    obtain ⟨i, _, rfl⟩ := hw
    exact fun x hx => hb x (List.mem_of_mem_drop (List.mem_of_mem_drop (List.mem_of_mem_take hx)))
theorem sec_0 (b : List Int) (gen place : Nat) : (secL b gen place)[0]? = some (firstL b gen place) := rfl
theorem append_law {g : Lg} {d : Dk} {n : Nat} (k : Good g d n) {b : List Int} (hb : byteL b) :
    ((appendL g d n b).1 = 0 ∧ Good (appendL g d n b).2.1 (appendL g d n b).2.2 n ∧ (appendL g d n b).2.1.rows = g.rows ++ [b] ∧ (appendL g d n b).2.1.half = g.half ∧ (appendL g d n b).2.1.gen = g.gen ∧ b.length ≤ 200 ∧ g.fin + (secL b g.gen g.rows.length).length ≤ n / 2
      ∨ (appendL g d n b).1 = 7 ∧ (Kept (appendL g d n b).2.2 n g.rows ∨ Kept (appendL g d n b).2.2 n (g.rows ++ [b]))
      ∨ (appendL g d n b).1 = 1 ∧ 200 < b.length ∧ appendL g d n b = (1, g, d) ∨ b.length ≤ 200 ∧ n / 2 < g.fin + (secL b g.gen g.rows.length).length ∧ appendL g d n b = (4, g, d))
    ∧ (d.calm → (appendL g d n b).1 ≠ 7 ∧ (appendL g d n b).2.2.calm) := by
  have hf := k.keeps.fins
  unfold appendL
  rw [if_neg (by rw [k.whole]; decide)]
  by_cases hl : 200 < b.length
  · rw [if_pos hl]
    exact ⟨.inr (.inr (.inl ⟨rfl, hl, rfl⟩)), fun hc => ⟨by simp, hc⟩⟩
  rw [if_neg hl]
  obtain ⟨S, hS⟩ : ∃ S, S = secL b g.gen g.rows.length := ⟨_, rfl⟩
  simp only [← hS]
  have hS1 : 1 ≤ S.length := by rw [hS, secL_length]; omega
  by_cases hfit : n / 2 < g.fin + S.length
  · rw [if_pos hfit]
    exact ⟨.inr (.inr (.inr ⟨by omega, hfit, rfl⟩)), fun hc => ⟨by simp, hc⟩⟩
  rw [if_neg hfit]
  have hly := lay_law (n := n) (h := g.half) (at_ := g.fin) (ss := S) k.keeps.hh (by omega) hS1 (by rw [hS]; exact secL_32) (by rw [hS]; exact sec_byte hb) S.length g d k.keeps.ok (Nat.le_refl _) (fun i w hw hc => by omega)
  have hkp := lay_keeps (n := n) (h := g.half) (at_ := g.fin) (ss := S) S.length g d
  obtain ⟨L, hL⟩ : ∃ L, L = layK n g.half g.fin S S.length g d := ⟨_, rfl⟩
  rw [← hL] at hly hkp
  simp only [← hL]
  obtain ⟨e, g2, d2⟩ := L
  dsimp only at hly hkp ⊢
  obtain ⟨hly, hbk, hcalm⟩ := hly
  obtain ⟨k1, k2, k3, k4⟩ := hkp
  have hoth : Oth (d2.at n (1 - g.half) 0) g.gen := by
    rw [hly.other (1 - g.half) 0 (by omega) (by omega) (by have := k.keeps.hh; omega)]
    exact k.keeps.oth
  have hsame : ∀ i, i < g.fin → d2.at n g.half i = d.at n g.half i := fun i hi => hly.other g.half i k.keeps.hh (by omega) (by omega)
  -- what stands, where all sectors are laid
  have hall : (∀ (i : Nat) w, S[i]? = some w → d2.at n g.half (g.fin + i) = pad w) → Keeps d2 n g.half g.gen (g.rows ++ [b]) (g.fin + S.length) := fun hq => by
    have hst : Std d2 n g.half g.gen g.fin (0 + g.rows.length) b := by
      rw [Nat.zero_add]
      exact ⟨by rw [← hS]; omega, fun i w hw => hq i w (by rw [hS]; exact hw)⟩
    have hc := chain_snoc g.rows (chain_congr g.rows k.keeps.chain (by omega) fun i _ h2 => hsame i h2) hst (by omega)
    rw [Nat.zero_add, ← hS] at hc
    refine ⟨hly.ok, hly.byte k.keeps.byte, k.keeps.n4, k.keeps.hh, k.keeps.g1, k.keeps.gm, ?_, hoth, hc, fun hlt => ?_⟩
    · rw [hsame 0 (by omega)]; exact k.keeps.head
    · rw [hly.other g.half _ k.keeps.hh hlt (by omega), k.blank _ (by omega) hlt]
      decide
  rcases hly.it with ⟨he, hq⟩ | ⟨he, w0, t, hw0, ht, hat, hrest⟩
  · subst he
    rw [if_pos rfl]
    refine ⟨.inl ⟨rfl, ⟨?_, ?_, ?_⟩, ?_, k3, k4, by omega, by omega⟩, fun hc => ⟨by simp, (hcalm hc).2⟩⟩
    · dsimp only
      rw [k1, k2, k3, k4]
      exact hall hq
    · dsimp only
      rw [hbk, k.whole]; rfl
    · dsimp only
      intro i h1 h2
      rw [k2] at h1
      rw [k3, hly.other g.half i k.keeps.hh h2 (by omega)]
      exact k.blank i (by omega) h2
    · dsimp only
      rw [k1]
  · rw [if_neg (by omega)]
    refine ⟨.inr (.inl ⟨he, ?_⟩), fun hc => absurd (hcalm hc).1 (by omega)⟩
    have hw0e : w0 = firstL b g.gen g.rows.length := by
      rw [hS, sec_0] at hw0
      cases hw0; rfl
    have hbl := k.blank g.fin (by omega) (by omega)
    by_cases ht32 : t = 32
    · right
      refine ⟨g.half, g.gen, g.fin + S.length, hall fun i w hw => ?_⟩
      rcases hrest with h0 | hrest
      · omega
      · by_cases hi : i = 0
        · subst hi
          rw [hw0] at hw
          cases hw
          rw [Nat.add_zero, hat, ht32, tear_all (by rw [hw0e, first_len]; omega) (by rw [hbl]; decide)]
        · exact hrest i w (by omega) hw
    · left
      refine ⟨g.half, g.gen, g.fin, k.keeps.to hly.ok (hly.byte k.keeps.byte) hsame (fun _ => ?_) hoth⟩
      rw [hat, tear_31 (by rw [hw0e, first_len]; omega) (by omega), hbl]
      decide

theorem layAll_law {n h gen : Nat} (hh : h ≤ 1) : ∀ (rs : List (List Int)) (place at_ : Nat) (g : Lg) (d : Dk), d.ok n → 1 ≤ at_ → at_ + totL (allL gen place rs) ≤ n / 2 → (∀ b ∈ rs, b.length ≤ 200 ∧ byteL b) →
    (layAll n h (allL gen place rs) at_ g d).2.2.ok n ∧ (byteL d.B → byteL (layAll n h (allL gen place rs) at_ g d).2.2.B)
    ∧ (∀ h' i, h' ≤ 1 → i < n / 2 → (h' ≠ h ∨ i < at_ ∨ at_ + totL (allL gen place rs) ≤ i) → (layAll n h (allL gen place rs) at_ g d).2.2.at n h' i = d.at n h' i)
    ∧ ((layAll n h (allL gen place rs) at_ g d).1 = 0 ∧ Chain (layAll n h (allL gen place rs) at_ g d).2.2 n h gen at_ place rs (at_ + totL (allL gen place rs)) ∨ (layAll n h (allL gen place rs) at_ g d).1 = 7)
    ∧ (layAll n h (allL gen place rs) at_ g d).2.1.broken = (g.broken || !((layAll n h (allL gen place rs) at_ g d).1 == 0)) ∧ (d.calm → (layAll n h (allL gen place rs) at_ g d).1 = 0 ∧ (layAll n h (allL gen place rs) at_ g d).2.2.calm)
  | [], place, at_, g, d, hd, ha, hp, hrs => by
    simp only [allL, layAll, totL, List.map_nil, List.sum_nil, Nat.add_zero]
    exact ⟨hd, fun h => h, by simp, .inl ⟨by simp, by simp [Chain]⟩, by simp, fun hc => ⟨by simp, hc⟩⟩
  | b :: rs, place, at_, g, d, hd, ha, hp, hrs => by
    obtain ⟨hbl, hbb⟩ := hrs b (List.mem_cons_self ..)
    obtain ⟨S, hS⟩ : ∃ S, S = secL b gen place := ⟨_, rfl⟩
    have hS1 : 1 ≤ S.length := by rw [hS, secL_length]; omega
    have ht : totL (allL gen place (b :: rs)) = S.length + totL (allL gen (place + 1) rs) := by
      simp [allL, totL, hS]
    rw [ht] at hp ⊢
    have hly := lay_law (n := n) (h := h) (at_ := at_) (ss := S) hh (by omega) hS1 (by rw [hS]; exact secL_32) (by rw [hS]; exact sec_byte hbb) S.length g d hd (Nat.le_refl _) (fun i w hw hc => by omega)
    simp only [allL, layAll, ← hS]
    obtain ⟨L, hL⟩ : ∃ L, L = layK n h at_ S S.length g d := ⟨_, rfl⟩
    rw [← hL] at hly ⊢
    obtain ⟨e, g2, d2⟩ := L
    dsimp only at hly ⊢
    obtain ⟨hly, hbk, hcalm⟩ := hly
    rcases hly.it with ⟨he, hq⟩ | ⟨he, _⟩
    · rw [if_pos he]
      obtain ⟨i1, i2, i3, i4, i5, i6⟩ := layAll_law (n := n) (gen := gen) hh rs (place + 1) (at_ + S.length) g2 d2 hly.ok (by omega) (by omega) fun b hb => hrs b (List.mem_cons_of_mem _ hb)
      refine ⟨i1, fun hb => i2 (hly.byte hb), fun h' i h1 h2 h3 => (i3 h' i h1 h2 (by omega)).trans (hly.other h' i h1 h2 (by omega)), ?_, ?_, fun hc => i6 (hcalm hc).2⟩
      · rcases i4 with ⟨j1, j2⟩ | j
        · refine .inl ⟨j1, ⟨by rw [← hS]; omega, fun i w hw => ?_⟩, hbl, ?_⟩
          · rw [← hS] at hw
            have hil := (List.getElem?_eq_some_iff.1 hw).1
            rw [i3 h (at_ + i) hh (by omega) (.inr (.inl (by omega)))]
            exact hq i w hw
          · rw [← hS, ← Nat.add_assoc]
            exact j2
        · exact .inr j
      · rw [i5, hbk, he]; simp
    · rw [if_neg (by omega)]
      refine ⟨hly.ok, hly.byte, fun h' i h1 h2 h3 => hly.other h' i h1 h2 (by omega), .inr he, hbk, fun hc => absurd (hcalm hc).1 (by omega)⟩
theorem layAll_keeps {n h : Nat} : ∀ (A : List (List (List Int))) (at_ : Nat) (g : Lg) (d : Dk), (layAll n h A at_ g d).2.1.rows = g.rows
  | [], at_, g, d => rfl
  | s :: A, at_, g, d => by
    rw [layAll]
    split
    · rw [layAll_keeps A]; exact (lay_keeps _ _ _).1
    · exact (lay_keeps _ _ _).1
theorem only_law {g : Lg} {d : Dk} {n : Nat} (k : Good g d n) {rs : List (List Int)} (hb : ∀ b ∈ rs, byteL b) :
    ((onlyL g d n rs).1 = 0 ∧ Good (onlyL g d n rs).2.1 (onlyL g d n rs).2.2 n ∧ (onlyL g d n rs).2.1.rows = rs ∧ (onlyL g d n rs).2.1.gen = g.gen + 1
      ∨ (onlyL g d n rs).1 = 7 ∧ (Kept (onlyL g d n rs).2.2 n g.rows ∨ Kept (onlyL g d n rs).2.2 n rs)
      ∨ (onlyL g d n rs).1 = 1 ∧ (∃ b ∈ rs, 200 < b.length) ∧ onlyL g d n rs = (1, g, d) ∨ onlyL g d n rs = (4, g, d))
    ∧ (d.calm → (onlyL g d n rs).1 ≠ 7 ∧ (onlyL g d n rs).2.2.calm) := by
  have hf := k.keeps.fins
  have hn4 := k.keeps.n4
  have hh1 := k.keeps.hh
  unfold onlyL
  rw [if_neg (by rw [k.whole]; decide)]
  by_cases hl : (rs.any fun b => decide (200 < b.length)) = true
  · rw [if_pos hl]
    refine ⟨.inr (.inr (.inl ⟨rfl, ?_, rfl⟩)), fun hc => ⟨by simp, hc⟩⟩
    rw [List.any_eq_true] at hl
    obtain ⟨b, h1, h2⟩ := hl
    exact ⟨b, h1, by simpa using h2⟩
  rw [if_neg hl]
  have hrs : ∀ b ∈ rs, b.length ≤ 200 ∧ byteL b := fun b hm => ⟨by
    by_cases q : 200 < b.length
    · exact absurd (List.any_eq_true.2 ⟨b, hm, by simpa using q⟩) hl
    · omega, hb b hm⟩
  by_cases hfull : n / 2 < 1 + totL (allL (g.gen + 1) 0 rs) ∨ g.gen = 2147483647
  · rw [if_pos hfull]
    exact ⟨.inr (.inr (.inr rfl)), fun hc => ⟨by simp, hc⟩⟩
  rw [if_neg hfull]
  obtain ⟨T, hT⟩ : ∃ T, T = totL (allL (g.gen + 1) 0 rs) := ⟨_, rfl⟩
  obtain ⟨hf2, hhf⟩ : ∃ hf2, hf2 = 1 - g.half := ⟨_, rfl⟩
  rw [← hT] at hfull ⊢
  rw [← hhf]
  have hgm := k.keeps.gm
  have hwp := wipe_law (n := n) (h := hf2) (down := 0) (by omega) (n / 2) g d k.keeps.ok (by omega)
  obtain ⟨L, hL⟩ : ∃ L, L = wipeK n hf2 0 (n / 2) g d := ⟨_, rfl⟩
  rw [← hL] at hwp ⊢
  obtain ⟨e, g1, d1⟩ := L
  dsimp only at hwp ⊢
  obtain ⟨hwp, hbk1, hcalm1⟩ := hwp
  have hs1 : ∀ i, i < n / 2 → d1.at n g.half i = d.at n g.half i := fun i hi => hwp.other g.half i k.keeps.hh hi (by omega)
  have ho1 : Oth (d1.at n (1 - g.half) 0) g.gen := by
    obtain ⟨t, ht, hq⟩ := hwp.it 0 (by omega) (by omega)
    rw [← hhf, hq]
    have := k.keeps.oth
    rw [← hhf] at this
    exact oth_tear this ht
  have keep : ∀ d2 : Dk, d2.ok n → byteL d2.B → (∀ i, i < n / 2 → d2.at n g.half i = d.at n g.half i) → Oth (d2.at n (1 - g.half) 0) g.gen → Kept d2 n g.rows := fun d2 h1 h2 h3 h4 =>
    ⟨g.half, g.gen, g.fin, k.keeps.to h1 h2 (fun i hi => h3 i (by omega)) (fun hlt => by rw [h3 _ hlt]; exact k.keeps.stop hlt) h4⟩
  rcases hwp.e07 with he | he
  · subst he
    rw [if_pos rfl]
    have hz1 : ∀ i, i < n / 2 → d1.at n hf2 i = pad [] := fun i hi => hwp.all rfl i (by omega) (by omega)
    obtain ⟨l1, l2, l3, l4, l5, l6⟩ := layAll_law (n := n) (h := hf2) (gen := g.gen + 1) (by omega) rs 0 1 g1 d1 hwp.ok (by omega) (by rw [← hT]; omega) hrs
    have l7 := layAll_keeps (n := n) (h := hf2) (allL (g.gen + 1) 0 rs) 1 g1 d1
    rw [← hT] at l3 l4
    obtain ⟨A, hA⟩ : ∃ A, A = layAll n hf2 (allL (g.gen + 1) 0 rs) 1 g1 d1 := ⟨_, rfl⟩
    rw [← hA] at l1 l2 l3 l4 l5 l6 l7 ⊢
    obtain ⟨e2, g2, d2⟩ := A
    dsimp only at l1 l2 l3 l4 l5 l6 l7 ⊢
    have hs2 : ∀ i, i < n / 2 → d2.at n g.half i = d.at n g.half i := fun i hi => (l3 g.half i k.keeps.hh hi (by omega)).trans (hs1 i hi)
    have hz20 : d2.at n hf2 0 = pad [] := (l3 hf2 0 (by omega) (by omega) (by omega)).trans (hz1 0 (by omega))
    have ho2 : Oth (d2.at n (1 - g.half) 0) g.gen := by
      rw [← hhf, hz20]
      exact .inl (by decide)
    rcases l4 with ⟨l4, hch⟩ | l4
    · subst l4
      rw [if_pos rfl]
      have hlt : hf2 * (n / 2) + 0 < n := half_le (by omega) (by omega)
      have hw := write_law l1 hlt (b := headL (g.gen + 1)) (by rw [headL_len]; omega)
      have hwc := fun hc : d2.calm => write_calm hc hlt (b := headL (g.gen + 1)) (by rw [headL_len]; omega)
      have hwb := fun hq : byteL d2.B => write_byte (n := n) (a := ((hf2 * (n / 2) + 0 : Nat) : Int)) hq (headL (g.gen + 1)) (headL_byte _)
      obtain ⟨X, hX⟩ : ∃ X, X = d2.write n ((hf2 * (n / 2) + 0 : Nat) : Int) (headL (g.gen + 1)) := ⟨_, rfl⟩
      rw [← hX] at hw hwc hwb ⊢
      obtain ⟨e3, d3⟩ := X
      dsimp only at hw hwc hwb ⊢
      have hoth3 : ∀ h' i, h' ≤ 1 → i < n / 2 → (h' ≠ hf2 ∨ i ≠ 0) → d3.at n h' i = d2.at n h' i := fun h' i h1 h2 h3 => hw.other _ (half_ne (by omega) h1 (by omega) h2 h3)
      have hs3 : ∀ i, i < n / 2 → d3.at n g.half i = d.at n g.half i := fun i hi => (hoth3 g.half i k.keeps.hh hi (by omega)).trans (hs2 i hi)
      have hb3 : byteL d3.B := hwb (l2 (hwp.byte k.keeps.byte))
      have hblank : ∀ i, 1 + T ≤ i → i < n / 2 → d3.at n hf2 i = pad [] := fun i h1 h2 => by
        rw [hoth3 hf2 i (by omega) h2 (by omega), l3 hf2 i (by omega) h2 (by omega), hz1 i h2]
      have new : d3.at n hf2 0 = headL (g.gen + 1) → Keeps d3 n hf2 (g.gen + 1) rs (1 + T) := fun hq => by
        refine ⟨hw.ok, hb3, hn4, by omega, by omega, by omega, hq, ?_, ?_, fun hlt2 => ?_⟩
        · have e1 : 1 - hf2 = g.half := by omega
          rw [e1, hs3 0 (by omega), k.keeps.head]
          exact .inr ⟨g.gen, 0, by omega, by omega, tear_0.symm⟩
        · refine chain_congr rs hch (by omega) fun i h1 h2 => ?_
          exact hoth3 hf2 i (by omega) (by omega) (by omega)
        · rw [hblank _ (Nat.le_refl _) hlt2]
          decide
      rcases hw.it with ⟨he3, hq⟩ | ⟨he3, t, ht, hq⟩
      · subst he3
        rw [if_pos rfl]
        rw [pad_head] at hq
        refine ⟨.inl ⟨rfl, ⟨new hq, ?_, hblank⟩, rfl, rfl⟩, fun hc => ⟨by simp, (hwc (l6 (hcalm1 hc).2).2).2⟩⟩
        simp only [Lg.only, Lg.wrote]
        rw [l5, hbk1, k.whole]
        rfl
      · rw [if_neg (by omega)]
        refine ⟨.inr (.inl ⟨he3, ?_⟩), fun hc => absurd (hwc (l6 (hcalm1 hc).2).2).1 (by omega)⟩
        have hz : d2.sector (hf2 * (n / 2) + 0) = pad [] := hz20
        rw [hz] at hq
        by_cases ht32 : t = 32
        · right
          refine ⟨hf2, g.gen + 1, 1 + T, new ?_⟩
          unfold Dk.at
          rw [hq, ht32, tear_all (by rw [headL_len]; omega) (by decide), pad_head]
        · left
          refine keep d3 hw.ok hb3 hs3 ?_
          rw [← hhf]
          unfold Dk.at
          rw [hq]
          refine .inl ?_
          rw [tear_31 (by rw [headL_len]; omega) (by omega)]
          decide
    · rw [if_neg (by omega)]
      exact ⟨.inr (.inl ⟨l4, .inl (keep d2 l1 (l2 (hwp.byte k.keeps.byte)) hs2 ho2)⟩), fun hc => absurd (l6 (hcalm1 hc).2).1 (by omega)⟩
  · rw [if_neg (by omega)]
    exact ⟨.inr (.inl ⟨he, .inl (keep d1 hwp.ok (hwp.byte k.keeps.byte) hs1 ho1)⟩), fun hc => absurd (hcalm1 hc).1 (by omega)⟩
end Go.Proofs.Ytifhbgppjblobaa
