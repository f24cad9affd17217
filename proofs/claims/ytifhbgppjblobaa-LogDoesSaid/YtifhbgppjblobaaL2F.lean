/- Sectors, one behind the other; a record as the document reads it (plain). -/
import Derived.Test.YtifhbgppjblobaaL2E
namespace Go.Proofs.Ytifhbgppjblobaa
open Go Go.VX Go.RowKit
set_option linter.unusedVariables false
set_option linter.unusedSimpArgs false
set_option maxHeartbeats 20000000
set_option maxRecDepth 100000

theorem stOne_iff {d : Dk} {ix : Nat} {w : List Int} (hs : (d.sector ix).length = 32) : stOne d ix w = true ↔ d.sector ix = pad w := by
  constructor
  · intro h
    unfold stOne at h
    simp only [Bool.and_eq_true, decide_eq_true_eq] at h
    obtain ⟨h1, h2⟩ := h
    refine (List.take_append_drop w.length (d.sector ix)).symm.trans ?_
    rw [h1, pad]
    congr 1
    rw [List.eq_replicate_iff]
    refine ⟨by rw [List.length_drop, hs], fun x hx => ?_⟩
    unfold blankB at h2
    rw [List.all_eq_true] at h2
    simpa using h2 x hx
  · exact stOne_pad
theorem pads_iff {d : Dk} {n : Nat} (hd : d.ok n) : ∀ (ws : List (List Int)) (a : Nat), a + ws.length ≤ n → (∀ w ∈ ws, w.length ≤ 32) → ((∀ (i : Nat) w, ws[i]? = some w → d.sector (a + i) = pad w) ↔ (d.B.drop (a * 32)).take (32 * ws.length) = (ws.map pad).flatten)
  | [], a, ha, h32 => by simp
  | w :: ws, a, ha, h32 => by
    simp only [List.length_cons] at ha
    have ih := pads_iff hd ws (a + 1) (by omega) fun w hw => h32 w (List.mem_cons_of_mem _ hw)
    have e1 : 32 * (w :: ws).length = 32 + 32 * ws.length := by simp only [List.length_cons]; omega
    have e2 : (d.B.drop (a * 32)).take (32 + 32 * ws.length) = d.sector a ++ (d.B.drop ((a + 1) * 32)).take (32 * ws.length) := by
      rw [List.take_add, List.drop_drop]
      congr 3
      omega
    have hl := hd.len
    have hsl : (d.sector a).length = 32 := sector_len hd (by omega)
    have hpl : (pad w).length = 32 := pad_length (h32 w (List.mem_cons_self ..))
    rw [e1, e2, List.map_cons, List.flatten_cons]
    constructor
    · intro h
      have h0 := h 0 w rfl
      rw [Nat.add_zero] at h0
      rw [h0, ih.1 fun i v hv => by
        have := h (i + 1) v (by simpa using hv)
        rw [← this]; congr 1; omega]
    · intro h i v hv
      obtain ⟨h1, h2⟩ := List.append_inj h (by omega)
      cases i with
      | zero =>
        simp only [List.getElem?_cons_zero, Option.some.injEq] at hv
        rw [Nat.add_zero, h1, hv]
      | succ i =>
        have := ih.2 h2 i v (by simpa using hv)
        rw [← this]; congr 1; omega
theorem stand_ref {d : Dk} {n h at_ : Nat} {ws : List (List Int)} (hd : d.ok n) (hb : h * (n / 2) + at_ + ws.length ≤ n) (h32 : ∀ w ∈ ws, w.length ≤ 32) :
    standB d n h at_ ws = decide ((d.B.drop ((h * (n / 2) + at_) * 32)).take (32 * ws.length) = (ws.map pad).flatten) := by
  rw [Bool.eq_iff_iff, decide_eq_true_eq, ← pads_iff hd ws _ hb h32]
  constructor
  · intro h i w hw
    unfold standB at h
    rw [List.all_eq_true] at h
    have hi := (List.getElem?_eq_some_iff.1 hw).1
    have h1 := h i (List.mem_range.2 hi)
    rw [List.getD_eq_getElem?_getD, hw] at h1
    simp only [Option.getD_some] at h1
    rw [stOne_iff (sector_len hd (by omega))] at h1
    rw [← h1]; congr 1; omega
  · intro h
    refine standB_yes fun i w hw => ?_
    have hi := (List.getElem?_eq_some_iff.1 hw).1
    rw [stOne_iff (sector_len hd (by omega)), ← h i w hw]
    congr 1; omega
/-- What is gathered: the first bytes, and so many of those behind. -/
theorem gather_ref {d : Dk} {n h at_ long : Nat} {b0 : List Int} (hd : d.ok n) (hh : h ≤ 1) (hb0 : b0.length = min long 17) : ∀ (f j : Nat), j ≤ (long - 17 + 31) / 32 → at_ + 1 + j ≤ n / 2 → (long - 17 + 31) / 32 ≤ f + j →
    gatherK d n h at_ long f (b0 ++ (d.B.drop ((h * (n / 2) + at_ + 1) * 32)).take (min (32 * j) (long - 17))) (1 + j) = (b0 ++ (d.B.drop ((h * (n / 2) + at_ + 1) * 32)).take (min (32 * min ((long - 17 + 31) / 32) (n / 2 - at_ - 1)) (long - 17)), 1 + min ((long - 17 + 31) / 32) (n / 2 - at_ - 1))
  | f, j, hj, hat, hf => by
    have hl := hd.len
    have hp := half_le (n := n) (h := h) (i := at_ + j) hh (by omega)
    obtain ⟨TB, hTB⟩ : ∃ TB, TB = d.B.drop ((h * (n / 2) + at_ + 1) * 32) := ⟨_, rfl⟩
    have hTl : 32 * j ≤ TB.length := by rw [hTB, List.length_drop, hl]; omega
    have hlen : (b0 ++ TB.take (min (32 * j) (long - 17))).length = min long 17 + min (32 * j) (long - 17) := by
      rw [List.length_append, List.length_take, hb0]; omega
    rw [← hTB]
    by_cases hstop : j = (long - 17 + 31) / 32 ∨ n / 2 ≤ at_ + 1 + j
    · have e : min ((long - 17 + 31) / 32) (n / 2 - at_ - 1) = j := by omega
      rw [e, gatherK_end (by rw [hlen]; omega)]
    · obtain ⟨f, rfl⟩ : ∃ f', f = f' + 1 := ⟨f - 1, by omega⟩
      have ih := gather_ref (h := h) (at_ := at_) hd hh hb0 f (j + 1) (by omega) (by omega) (by omega)
      rw [← hTB] at ih
      rw [gatherK, if_pos ⟨by rw [hlen]; omega, by omega⟩]
      have es : d.sector (h * (n / 2) + (at_ + (1 + j))) = (TB.drop (32 * j)).take 32 := by
        rw [hTB, List.drop_drop, Dk.sector]
        congr 2
        omega
      have e2 : (b0 ++ TB.take (min (32 * j) (long - 17))) ++ ((d.sector (h * (n / 2) + (at_ + (1 + j)))).take (min (long - (b0 ++ TB.take (min (32 * j) (long - 17))).length) 32)) = b0 ++ TB.take (min (32 * (j + 1)) (long - 17)) := by
        rw [hlen, es, List.append_assoc, List.take_take]
        congr 1
        have e3 : min (32 * j) (long - 17) = 32 * j := by omega
        have e4 : min (min (long - (min long 17 + min (32 * j) (long - 17))) 32) 32 = min 32 (long - 17 - 32 * j) := by omega
        have e5 : min (32 * (j + 1)) (long - 17) = 32 * j + min 32 (long - 17 - 32 * j) := by omega
        rw [e3] at e4 ⊢
        rw [e4, e5, List.take_add]
      rw [e2, Nat.add_assoc, ih]
theorem recOne_ref {d : Dk} {n h gen at_ place long K : Nat} {s R : List Int} (hd : d.ok n) (hh : h ≤ 1) (hat : at_ < n / 2) (hs : s = d.sector (h * (n / 2) + at_)) (hlong : long = tellN (s.take 2)) (hl : long ≤ 200) (hK : K = 1 + (long - 17 + 31) / 32)
    (hR : R = (s.drop 14).take (min long 17) ++ (d.B.drop ((h * (n / 2) + at_ + 1) * 32)).take (long - 17)) :
    recOne d n h gen at_ place = if n / 2 < at_ + K then none else if (d.B.drop ((h * (n / 2) + at_) * 32)).take (32 * K) = flatL R gen place then some (K, R) else none := by
  have hlb := hd.len
  have hp := half_le (n := n) (h := h) (i := at_) hh hat
  have hsl : s.length = 32 := by rw [hs]; exact sector_len hd hp
  have hb0 : ((s.drop 14).take (min long 17)).length = min long 17 := by rw [List.length_take, List.length_drop, hsl]; omega
  have hg := gather_ref (h := h) (at_ := at_) hd hh hb0 200 0 (by omega) (by omega) (by omega)
  rw [Nat.mul_zero, Nat.zero_min, List.take_zero, List.append_nil, Nat.add_zero] at hg
  unfold recOne
  simp only [← hs, ← hlong]
  obtain ⟨b0, hb0e⟩ : ∃ b0, b0 = (s.drop 14).take (min long 17) := ⟨_, rfl⟩
  rw [← hb0e] at hb0 hg hR ⊢
  rw [if_neg (by omega), hg]
  dsimp only
  by_cases hfit : n / 2 < at_ + K
  · rw [if_pos hfit, if_pos]
    rw [List.length_append, List.length_take, hb0]
    omega
  · have e1 : min ((long - 17 + 31) / 32) (n / 2 - at_ - 1) = (long - 17 + 31) / 32 := by omega
    have e2 : min (32 * ((long - 17 + 31) / 32)) (long - 17) = long - 17 := by omega
    rw [e1, e2, ← hR, ← hK]
    have hRl : R.length = long := by
      rw [hR, List.length_append, List.length_take, hb0, List.length_drop, hlb]
      have := half_le (n := n) (h := h) (i := at_ + K - 1) hh (by omega)
      omega
    have hsec : (secL R gen place).length = K := by rw [secL_length, nch, List.length_drop, hRl, hK]
    rw [if_neg hfit, if_neg (by omega), stand_ref hd (by rw [hsec]; have := half_le (n := n) (h := h) (i := at_ + K - 1) hh (by omega); omega) secL_32, hsec]
    unfold flatL
    by_cases hq : (d.B.drop ((h * (n / 2) + at_) * 32)).take (32 * K) = ((secL R gen place).map pad).flatten
    · rw [if_pos (decide_eq_true hq), if_pos hq]
    · rw [if_neg (by simpa using hq), if_neg hq]
end Go.Proofs.Ytifhbgppjblobaa
