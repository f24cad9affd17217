/- A fresh log; logs at rest (plain). -/
import Derived.Test.YtifhbgppjblobaaL2A
namespace Go.Proofs.Ytifhbgppjblobaa
open Go Go.VX Go.RowKit
set_option linter.unusedVariables false
set_option linter.unusedSimpArgs false
set_option maxHeartbeats 20000000
set_option maxRecDepth 100000

theorem Keeps.same {d d' : Dk} {n h gen fin : Nat} {rows : List (List Int)} (k : Keeps d n h gen rows fin) (hd : d'.ok n) (hB : d'.B = d.B) : Keeps d' n h gen rows fin := by
  have hs : ∀ h' i, d'.at n h' i = d.at n h' i := fun h' i => by unfold Dk.at Dk.sector; rw [hB]
  exact k.to hd (by rw [hB]; exact k.byte) (fun i _ => hs h i) (fun hlt => by rw [hs]; exact k.stop hlt) (by rw [hs]; exact k.oth)
theorem Kept.same {d d' : Dk} {n : Nat} {rows : List (List Int)} (k : Kept d n rows) (hd : d.ok n → d'.ok n) (hB : d'.B = d.B) : Kept d' n rows := by
  obtain ⟨h, gen, fin, k⟩ := k
  exact ⟨h, gen, fin, k.same (hd k.ok) hB⟩
theorem chain_rows {d : Dk} {n h gen : Nat} : ∀ (l : List (List Int)) {at_ place fin : Nat}, Chain d n h gen at_ place l fin → ∀ b ∈ l, b.length ≤ 200
  | [], _, _, _, _, b, hb => by simp at hb
  | c :: l, at_, place, fin, h, b, hb => by
    rcases List.mem_cons.1 hb with e | hb
    · rw [e]; exact h.2.1
    · exact chain_rows l h.2.2 b hb
theorem Good.facts {g : Lg} {d : Dk} {n : Nat} (k : Good g d n) : d.ok n ∧ byteL d.B ∧ g.half ≤ 1 ∧ 1 ≤ g.gen ∧ g.gen ≤ 2147483647 ∧ g.fin ≤ n / 2 ∧ g.rows.length ≤ n / 2 ∧ n ≤ 4096 ∧ ∀ b ∈ g.rows, b.length ≤ 200 := by
  have := k.keeps.fins
  exact ⟨k.keeps.ok, k.keeps.byte, k.keeps.hh, k.keeps.g1, k.keeps.gm, this.2, by omega, k.keeps.ok.n4, chain_rows _ k.keeps.chain⟩
theorem new_sector (n a : Nat) (ha : a < n) : (Dk.new n).sector a = pad [] := by
  rw [pad_nil]
  unfold Dk.sector Dk.new
  simp only
  rw [List.drop_replicate, List.take_replicate]
  congr 1
  omega
theorem new_law {n : Nat} (h4 : 4 ≤ n) (hn : n ≤ 4096) : ∃ g d, openL (Dk.new n) n = (some g, 0, d) ∧ Good g d n ∧ g.rows = [] ∧ d.calm := by
  have hd := Dk.new_ok (n := n) (by omega) hn
  have hb : byteL (Dk.new n).B := by unfold Dk.new; exact byteL_zeros _
  have hs : ∀ h i, h ≤ 1 → i < n / 2 → (Dk.new n).at n h i = pad [] := fun h i h1 h2 => new_sector n _ (half_le h1 h2)
  have hg : ∀ h, h ≤ 1 → genL (Dk.new n) n h = 0 := fun h h1 => by
    have := hs h 0 h1 (by omega)
    unfold Dk.at at this
    rw [Nat.add_zero] at this
    unfold genL
    rw [this]
    split
    · rfl
    · decide
  have hok : beginOk (Dk.new n) n = true := by
    unfold beginOk
    rw [Bool.and_eq_true, List.all_eq_true]
    refine ⟨fun a ha => ?_, ?_⟩
    · have := List.mem_range.1 ha
      rw [new_sector n a (by omega)]
      simp [blank_nil]
    · rw [new_sector n 0 (by omega)]; decide
  have hcalm : (Dk.new n).calm := ⟨rfl, rfl⟩
  have hw := write_law hd (a := 0) (by omega) (b := headL 1) (by rw [headL_len]; omega)
  have hwc := write_calm hcalm (n := n) (a := 0) (by omega) (b := headL 1) (by rw [headL_len]; omega)
  have hwb := write_byte (n := n) (a := ((0 : Nat) : Int)) hb (headL 1) (headL_byte _)
  obtain ⟨X, hX⟩ : ∃ X, X = (Dk.new n).write n ((0 : Nat) : Int) (headL 1) := ⟨_, rfl⟩
  rw [← hX] at hw hwc hwb
  have hbe : beginL (Lg.new 0) (Dk.new n) n = (X.1, (Lg.new 0).wrote X.1, X.2) := by
    rw [beginL, if_pos hok]
    rw [show (Dk.new n).write n 0 (headL 1) = X from hX.symm]
  obtain ⟨e, d1⟩ := X
  dsimp only at hw hwc hwb hbe
  obtain ⟨he, hc1⟩ := hwc
  subst he
  have hit : d1.sector 0 = headL 1 := by
    rcases hw.it with ⟨_, q⟩ | ⟨q, _⟩
    · rw [q, pad_head]
    · omega
  have hother : ∀ h i, h ≤ 1 → i < n / 2 → (h ≠ 0 ∨ i ≠ 0) → d1.at n h i = pad [] := fun h i h1 h2 h3 => by
    have := half_ne (h := 0) (h' := h) (i := 0) (i' := i) (n := n) (by omega) h1 (by omega) h2 h3
    unfold Dk.at
    rw [hw.other _ (by simpa using this)]
    exact hs h i h1 h2
  have k : Keeps d1 n 0 1 [] 1 := by
    refine ⟨hw.ok, hwb, h4, by omega, by omega, by omega, ?_, ?_, rfl, fun hlt => ?_⟩
    · unfold Dk.at
      rw [Nat.zero_mul]
      exact hit
    · rw [hother (1 - 0) 0 (by omega) (by omega) (by omega)]
      exact .inl (by decide)
    · rw [hother 0 1 (by omega) hlt (by omega)]; decide
  have hop : openL (Dk.new n) n = openR d1 n { (Lg.new 0).wrote 0 with gen := 1 } := by
    unfold openL
    rw [if_neg (by omega), hg 0 (by omega), hg 1 (by omega), hbe]
    simp
  obtain ⟨k2, k3, k4⟩ := openR_law k { (Lg.new 0).wrote 0 with gen := 1 } rfl rfl rfl
  rw [← hop] at k2 k3 k4
  have k5 := k4 hc1
  rcases k3 with ⟨a, b, c⟩ | ⟨a, b⟩
  · exact ⟨⟨0, 1, [], 1, false⟩, (openL (Dk.new n) n).2.2, by rw [← a, ← b], ⟨k2, rfl, c⟩, rfl, k5.2⟩
  · omega
/-- What opens. -/
theorem open_good {d : Dk} {n h gen fin : Nat} {rows : List (List Int)} (k : Keeps d n h gen rows fin) :
    (∃ d', openL d n = (some ⟨h, gen, rows, fin, false⟩, 0, d') ∧ Good ⟨h, gen, rows, fin, false⟩ d' n ∧ (d.calm → d'.calm)) ∨ (¬ d.calm ∧ ∃ d', openL d n = (none, 7, d') ∧ Keeps d' n h gen rows fin) := by
  obtain ⟨k2, k3, k4⟩ := open_law k
  rcases k3 with ⟨a, b, c⟩ | ⟨a, b⟩
  · exact .inl ⟨(openL d n).2.2, by rw [← a, ← b], ⟨k2, rfl, c⟩, fun hc => (k4 hc).2⟩
  · exact .inr ⟨fun hc => by have := (k4 hc).1; omega, (openL d n).2.2, by rw [← a, ← b], k2⟩
theorem lg_eta {g : Lg} (h : g.broken = false) : (⟨g.half, g.gen, g.rows, g.fin, false⟩ : Lg) = g := by
  obtain ⟨a, b, c, e, f⟩ := g
  simp only at h
  rw [h]
end Go.Proofs.Ytifhbgppjblobaa
