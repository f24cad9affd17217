/- Logs stay fine, whatever was turned (plain). -/
import Derived.Test.YtifhbgppjblobaaL2K
namespace Go.Proofs.Ytifhbgppjblobaa
open Go Go.VX Go.RowKit
set_option linter.unusedVariables false
set_option linter.unusedSimpArgs false
set_option maxHeartbeats 20000000
set_option maxRecDepth 100000

structure Lg.fine (g : Lg) (n k : Nat) : Prop where
  hh : g.half ≤ 1
  gm : g.gen ≤ 2147483647
  rk : g.rows.length ≤ k
  fn : g.fin ≤ n / 2
  rl : ∀ b ∈ g.rows, b.length ≤ 200
theorem Lg.fine.up {g : Lg} {n k k' : Nat} (h : g.fine n k) (hk : k ≤ k') : g.fine n k' := ⟨h.hh, h.gm, Nat.le_trans h.rk hk, h.fn, h.rl⟩
theorem layK_byte {n h at_ : Nat} {ss : List (List Int)} (hs : ∀ w ∈ ss, byteL w) : ∀ (k : Nat) (g : Lg) (d : Dk), byteL d.B → byteL (layK n h at_ ss k g d).2.2.B
  | 0, g, d, hb => hb
  | k + 1, g, d, hb => by
    have hg : byteL (ss.getD ((ss.length - k) % ss.length) []) := by
      rw [List.getD_eq_getElem?_getD]
      cases hq : ss[(ss.length - k) % ss.length]? with
      | none => exact byteL_nil
      | some w => exact hs w (List.mem_of_getElem? hq)
    rw [layK]
    split
    · exact layK_byte hs k _ _ (write_byte hb _ hg)
    · exact write_byte hb _ hg
theorem wipeK_byte {n h down : Nat} : ∀ (k : Nat) (g : Lg) (d : Dk), byteL d.B → byteL (wipeK n h down k g d).2.2.B
  | 0, g, d, hb => hb
  | k + 1, g, d, hb => by
    rw [wipeK]
    split
    · exact wipeK_byte k _ _ hb
    · split
      · exact wipeK_byte k _ _ (write_byte hb _ byteL_nil)
      · exact write_byte hb _ byteL_nil
theorem layAll_okb {n h gen : Nat} : ∀ (rs : List (List Int)) (place at_ : Nat) (g : Lg) (d : Dk), (∀ b ∈ rs, byteL b) → d.ok n → byteL d.B → (layAll n h (allL gen place rs) at_ g d).2.2.ok n ∧ byteL (layAll n h (allL gen place rs) at_ g d).2.2.B
  | [], place, at_, g, d, hr, hd, hb => ⟨hd, hb⟩
  | b :: rs, place, at_, g, d, hr, hd, hb => by
    have h1 := layK_ok (n := n) (h := h) (at_ := at_) (ss := secL b gen place) (secL b gen place).length g d hd
    have h2 := layK_byte (n := n) (h := h) (at_ := at_) (sec_byte (gen := gen) (place := place) (hr b (List.mem_cons_self ..))) (secL b gen place).length g d hb
    rw [allL, layAll]
    split
    · exact layAll_okb rs _ _ _ _ (fun c hc => hr c (List.mem_cons_of_mem _ hc)) h1 h2
    · exact ⟨h1, h2⟩
theorem append_fine {g g2 : Lg} {d d2 : Dk} {n k : Nat} {e : Int} {b : List Int} (hg : g.fine n k) (hd : d.ok n) (hbt : byteL d.B) (hb : byteL b) (h : (e, g2, d2) = appendL g d n b) : g2.fine n (k + 1) ∧ d2.ok n ∧ byteL d2.B := by
  unfold appendL at h
  split at h
  · cases h; exact ⟨hg.up (by omega), hd, hbt⟩
  split at h
  · cases h; exact ⟨hg.up (by omega), hd, hbt⟩
  rename_i hl
  simp only at h
  split at h
  · cases h; exact ⟨hg.up (by omega), hd, hbt⟩
  rename_i hfit
  have h1 := layK_ok (n := n) (h := g.half) (at_ := g.fin) (ss := secL b g.gen g.rows.length) (secL b g.gen g.rows.length).length g d hd
  have h2 := layK_byte (n := n) (h := g.half) (at_ := g.fin) (sec_byte (gen := g.gen) (place := g.rows.length) hb) (secL b g.gen g.rows.length).length g d hbt
  have h3 := layK_log (n := n) (h := g.half) (at_ := g.fin) (ss := secL b g.gen g.rows.length) (secL b g.gen g.rows.length).length g d
  split at h
  · cases h
    refine ⟨?_, h1, h2⟩
    rw [h3]
    refine ⟨hg.hh, hg.gm, ?_, ?_, ?_⟩
    · have := hg.rk
      simp; omega
    · dsimp only; omega
    · intro c hc
      rcases List.mem_append.1 hc with q | q
      · exact hg.rl c q
      · rw [List.mem_singleton.1 q]; omega
  · rw [Prod.ext_iff, Prod.ext_iff] at h
    obtain ⟨_, q2, q3⟩ := h
    dsimp only at q2 q3
    rw [q2, q3, h3]
    exact ⟨⟨hg.hh, hg.gm, Nat.le_succ_of_le hg.rk, hg.fn, hg.rl⟩, h1, h2⟩
theorem only_fine {g g2 : Lg} {d d2 : Dk} {n k : Nat} {e : Int} {rs : List (List Int)} (hg : g.fine n k) (hk : rs.length ≤ k) (hd : d.ok n) (hbt : byteL d.B) (hb : ∀ b ∈ rs, byteL b) (h : (e, g2, d2) = onlyL g d n rs) : g2.fine n k ∧ d2.ok n ∧ byteL d2.B := by
  have hgh := hg.hh
  have hgm := hg.gm
  unfold onlyL at h
  split at h
  · cases h; exact ⟨hg, hd, hbt⟩
  split at h
  · cases h; exact ⟨hg, hd, hbt⟩
  rename_i hl
  split at h
  · cases h; exact ⟨hg, hd, hbt⟩
  rename_i hfit
  have hl2 : ∀ b ∈ rs, b.length ≤ 200 := fun b hm => by
    by_cases q : 200 < b.length
    · exact absurd (List.any_eq_true.2 ⟨b, hm, by simpa using q⟩) hl
    · omega
  simp only at h
  have w1 := wipeK_ok (n := n) (h := 1 - g.half) (down := 0) (n / 2) g d hd
  have w2 := wipeK_byte (n := n) (h := 1 - g.half) (down := 0) (n / 2) g d hbt
  have w3 := wipeK_log (n := n) (h := 1 - g.half) (down := 0) (n / 2) g d
  obtain ⟨W, hW⟩ : ∃ W, W = wipeK n (1 - g.half) 0 (n / 2) g d := ⟨_, rfl⟩
  rw [← hW] at h w1 w2 w3
  obtain ⟨we, wg, wd⟩ := W
  dsimp only at h w1 w2 w3
  split at h
  · obtain ⟨l1, l2⟩ := layAll_okb (n := n) (h := 1 - g.half) (gen := g.gen + 1) rs 0 1 wg wd hb w1 w2
    have l3 := layAll_log (n := n) (h := 1 - g.half) (allL (g.gen + 1) 0 rs) 1 wg wd
    obtain ⟨L, hL⟩ : ∃ L, L = layAll n (1 - g.half) (allL (g.gen + 1) 0 rs) 1 wg wd := ⟨_, rfl⟩
    rw [← hL] at h l1 l2 l3
    obtain ⟨le, lg, ld⟩ := L
    dsimp only at h l1 l2 l3
    split at h
    · have x1 := write_ok l1 (((1 - g.half) * (n / 2) + 0 : Nat) : Int) (headL (g.gen + 1))
      have x2 := write_byte (n := n) (a := (((1 - g.half) * (n / 2) + 0 : Nat) : Int)) l2 (headL (g.gen + 1)) (headL_byte _)
      split at h
      · cases h
        refine ⟨⟨?_, ?_, hk, ?_, hl2⟩, x1, x2⟩
        · show 1 - g.half ≤ 1; omega
        · show g.gen + 1 ≤ _; omega
        · show 1 + totL _ ≤ _; omega
      · cases h
        refine ⟨?_, x1, x2⟩
        rw [l3, w3]
        exact ⟨hg.hh, hg.gm, hg.rk, hg.fn, hg.rl⟩
    · cases h
      refine ⟨?_, l1, l2⟩
      rw [l3, w3]
      exact ⟨hg.hh, hg.gm, hg.rk, hg.fn, hg.rl⟩
  · cases h
    refine ⟨?_, w1, w2⟩
    rw [w3]
    exact ⟨hg.hh, hg.gm, hg.rk, hg.fn, hg.rl⟩
theorem recOne_200 {d : Dk} {n h gen at_ place k : Nat} {b : List Int} (hd : d.ok n) (hh : h ≤ 1) (hat : at_ < n / 2) (he : recOne d n h gen at_ place = some (k, b)) : b.length ≤ 200 := by
  by_cases hl : 200 < tellN ((d.sector (h * (n / 2) + at_)).take 2)
  · unfold recOne at he
    simp only at he
    rw [if_pos hl] at he
    cases he
  · rw [recOne_ref hd hh hat rfl rfl (by omega) rfl rfl] at he
    split at he
    · cases he
    · split at he
      · rw [Option.some.injEq, Prod.mk.injEq] at he
        rw [← he.2, List.length_append, List.length_take, List.length_take]
        omega
      · cases he
theorem recsK_200 {d : Dk} {n h gen : Nat} (hd : d.ok n) (hh : h ≤ 1) : ∀ (f at_ place : Nat), ∀ x ∈ recsK d n h gen f at_ place, x.2.length ≤ 200
  | 0, _, _, x, hx => by simp [recsK] at hx
  | f + 1, at_, place, x, hx => by
    rw [recsK] at hx
    split at hx
    · rename_i hlt
      split at hx
      · rename_i r hr
        rcases List.mem_cons.1 hx with e | hx
        · rw [e]; exact recOne_200 hd hh hlt (k := r.1) (b := r.2) hr
        · exact recsK_200 hd hh f _ _ x hx
      · simp at hx
    · simp at hx
theorem openR_fine {g0 : Lg} {d d2 : Dk} {n : Nat} {j : Option Lg} {e : Int} (hn : 2 ≤ n) (hh : g0.half ≤ 1) (hg : g0.gen ≤ 2147483647) (hd : d.ok n) (hbt : byteL d.B) (h : (j, e, d2) = openR d n g0) : d2.ok n ∧ byteL d2.B ∧ (∀ g, j = some g → e = 0 ∧ g.fine n (n / 2)) := by
  unfold openR at h
  simp only at h
  obtain ⟨g1, hg1⟩ : ∃ g1, g1 = g0.had (recsL d n g0.half g0.gen) := ⟨_, rfl⟩
  rw [← hg1] at h
  have hf : g1.fine n (n / 2) := by
    rw [hg1]
    refine ⟨hh, hg, ?_, ?_, ?_⟩
    · show (List.map _ _).length ≤ _
      rw [List.length_map]; exact recsK_length _ _ _
    · exact recsK_le _ _ _ (by omega)
    · intro b hb
      obtain ⟨x, hx, rfl⟩ := List.mem_map.1 hb
      exact recsK_200 hd hh _ _ _ x hx
  have w1 := wipeK_ok (n := n) (h := g0.half) (down := g1.fin) (n / 2 - g1.fin) g1 d hd
  have w2 := wipeK_byte (n := n) (h := g0.half) (down := g1.fin) (n / 2 - g1.fin) g1 d hbt
  have w3 := wipeK_log (n := n) (h := g0.half) (down := g1.fin) (n / 2 - g1.fin) g1 d
  split at h
  · cases h
    refine ⟨w1, w2, fun g hg => ⟨rfl, ?_⟩⟩
    cases hg
    rw [w3]
    exact ⟨hf.hh, hf.gm, hf.rk, hf.fn, hf.rl⟩
  · cases h
    exact ⟨w1, w2, fun g hg => by cases hg⟩
theorem open_fine {d d2 : Dk} {n : Nat} {j : Option Lg} {e : Int} (hd : d.ok n) (hbt : byteL d.B) (h : (j, e, d2) = openL d n) : d2.ok n ∧ byteL d2.B ∧ (∀ g, j = some g → e = 0 ∧ g.fine n (n / 2)) := by
  have hn2 := hd.n2
  unfold openL at h
  split at h
  · cases h; exact ⟨hd, hbt, fun g hg => by cases hg⟩
  split at h
  · simp only at h
    obtain ⟨b1, b2⟩ := begin_ok (g := Lg.new 0) hd hbt rfl
    have b3 := begin_rows (g := Lg.new 0) (d := d) (n := n) rfl rfl (Nat.zero_le 1)
    split at h
    · exact openR_fine (g0 := { (beginL (Lg.new 0) d n).2.1 with gen := 1 }) hn2 b3.2 (by show 1 ≤ 2147483647; omega) b1 b2 h
    · cases h; exact ⟨b1, b2, fun g hg => by cases hg⟩
  · refine openR_fine hn2 ?_ ?_ hd hbt h
    · dsimp only; split <;> omega
    · have h0 := genL_le d n 0
      have h1 := genL_le d n 1
      show max _ _ ≤ _
      omega
theorem turn_ok {d : Dk} {n : Nat} (hd : d.ok n) (hbt : byteL d.B) (a c : Int) : (d.turned a c).2.ok n ∧ byteL (d.turned a c).2.B := by
  unfold Dk.turned
  split
  · refine ⟨⟨by simp [hd.len], hd.t0, hd.t1, hd.f, hd.n2, hd.n4, hd.f2⟩, fun x hx => ?_⟩
    rcases List.mem_or_eq_of_mem_set hx with q | q
    · exact hbt x q
    · rw [q]
      unfold bxor ibits
      simp only
      rw [IntKind.wrap_u8]
      omega
  · exact ⟨hd, hbt⟩
end Go.Proofs.Ytifhbgppjblobaa
