/- What a log keeps: sectors, records, headers (plain). -/
import Derived.Test.YtifhbgppjblobaaLogS
namespace Go.Proofs.Ytifhbgppjblobaa
open Go Go.VX Go.RowKit
set_option linter.unusedVariables false
set_option linter.unusedSimpArgs false
set_option maxHeartbeats 20000000
set_option maxRecDepth 100000

/-- A sector of a half. -/
def Dk.at (d : Dk) (n h i : Nat) : List Int := d.sector (h * (n / 2) + i)
theorem half_le {n h i : Nat} (hh : h ≤ 1) (hi : i < n / 2) : h * (n / 2) + i < n := by
  obtain ⟨p, hp⟩ : ∃ p, p = n / 2 := ⟨_, rfl⟩
  rw [← hp] at hi ⊢
  have : h = 0 ∨ h = 1 := by omega
  rcases this with e | e <;> rw [e] <;> omega
theorem half_ne {n h h' i i' : Nat} (hh : h ≤ 1) (hh' : h' ≤ 1) (hi : i < n / 2) (hi' : i' < n / 2) (hne : h' ≠ h ∨ i' ≠ i) : h' * (n / 2) + i' ≠ h * (n / 2) + i := by
  obtain ⟨p, hp⟩ : ∃ p, p = n / 2 := ⟨_, rfl⟩
  rw [← hp] at hi hi' ⊢
  have h1 : h = 0 ∨ h = 1 := by omega
  have h2 : h' = 0 ∨ h' = 1 := by omega
  rcases h1 with e | e <;> rcases h2 with e' | e' <;> rw [e, e'] <;> omega
theorem sector_spl_same {B m : List Int} {a n : Nat} {f : Dk} (hB : B.length = 32 * n) (ha : a < n) (hm : m.length ≤ 32) : ({ f with B := splI B (a * 32) m } : Dk).sector a = m ++ (({ f with B := B } : Dk).sector a).drop m.length := by
  unfold Dk.sector splI
  apply List.ext_getElem?
  intro j
  simp only [List.getElem?_take, List.getElem?_drop, List.getElem?_append, List.length_append, List.length_take, List.length_drop]
  have e1 : min (a * 32) B.length = a * 32 := by omega
  rw [e1]
  by_cases hj : j < 32
  · rw [if_pos hj]
    by_cases h2 : j < m.length
    · rw [if_pos (by omega), if_neg (by omega), if_pos h2]
      congr 1; omega
    · rw [if_neg (by omega), if_neg h2, if_pos (by omega)]
      congr 1; omega
  · rw [if_neg hj, if_neg (by omega), if_neg (by omega)]
theorem sector_spl_other {B m : List Int} {a x n : Nat} {f : Dk} (hB : B.length = 32 * n) (ha : a < n) (hm : m.length ≤ 32) (hx : x ≠ a) : ({ f with B := splI B (a * 32) m } : Dk).sector x = ({ f with B := B } : Dk).sector x := by
  unfold Dk.sector splI
  apply List.ext_getElem?
  intro j
  simp only [List.getElem?_take, List.getElem?_drop, List.getElem?_append, List.length_append, List.length_take, List.length_drop]
  have e1 : min (a * 32) B.length = a * 32 := by omega
  rw [e1]
  by_cases hj : j < 32
  · rw [if_pos hj, if_pos hj]
    by_cases h2 : x < a
    · rw [if_pos (by omega), if_pos (by omega), if_pos (by omega)]
    · rw [if_neg (by omega)]
      congr 1; omega
  · rw [if_neg hj, if_neg hj]
/-- Torn bytes over a sector. -/
def tear (t : Nat) (b s : List Int) : List Int := (pad b).take t ++ s.drop t
theorem tear_len {t : Nat} {b s : List Int} (hb : b.length ≤ 32) (hs : s.length = 32) (ht : t ≤ 32) : (tear t b s).length = 32 := by
  simp [tear, pad_length hb]; omega
theorem tear_all {b s : List Int} (hb : b.length ≤ 32) (hs : s.length = 32) : tear 32 b s = pad b := by
  rw [tear, List.take_of_length_le (by rw [pad_length hb]; omega), List.drop_of_length_le (by omega), List.append_nil]
theorem tear_0 {b s : List Int} : tear 0 b s = s := by simp [tear]
/-- What a write does to sectors. -/
structure Wrote (n : Nat) (d : Dk) (a : Nat) (b : List Int) (e : Int) (d' : Dk) : Prop where
  ok : d'.ok n
  other : ∀ x, x ≠ a → d'.sector x = d.sector x
  it : (e = 0 ∧ d'.sector a = pad b) ∨ (e = 7 ∧ ∃ t, t ≤ 32 ∧ d'.sector a = tear t b (d.sector a))
theorem write_law {d : Dk} {n : Nat} (hd : d.ok n) {a : Nat} (ha : a < n) {b : List Int} (hb : b.length ≤ 32) : Wrote n d a b (d.write n (a : Int) b).1 (d.write n (a : Int) b).2 := by
  have hok := write_ok hd (a : Int) b
  have hpl := pad_length hb
  have ht0 := hd.t0
  have ht1 := hd.t1
  refine ⟨hok, fun x hx => ?_, ?_⟩
  · unfold Dk.write
    rw [if_pos (by omega), if_neg (by omega)]
    split
    · rfl
    · split
      · simp only [Int.toNat_natCast]
        exact sector_spl_other (f := { d with down := true }) hd.len ha (by simp [hpl]; omega) hx
      · simp only [Int.toNat_natCast]
        exact sector_spl_other (f := { d with fuse := if d.fuse = -1 then -1 else IntKind.i64.wrap (d.fuse - 1), writes := IntKind.i64.wrap (d.writes + 1) }) hd.len ha (by omega) hx
  · unfold Dk.write
    rw [if_pos (by omega), if_neg (by omega)]
    split
    · exact .inr ⟨rfl, 0, by omega, tear_0.symm⟩
    · split
      · refine .inr ⟨rfl, d.torn.toNat, by omega, ?_⟩
        simp only [Int.toNat_natCast]
        rw [sector_spl_same (f := { d with down := true }) hd.len ha (by simp [hpl]; omega), tear]
        congr 2
        simp [hpl]; omega
      · refine .inl ⟨rfl, ?_⟩
        simp only [Int.toNat_natCast]
        rw [sector_spl_same (f := { d with fuse := if d.fuse = -1 then -1 else IntKind.i64.wrap (d.fuse - 1), writes := IntKind.i64.wrap (d.writes + 1) }) hd.len ha (by omega), hpl, List.drop_of_length_le (by rw [show (({ d with fuse := if d.fuse = -1 then -1 else IntKind.i64.wrap (d.fuse - 1), writes := IntKind.i64.wrap (d.writes + 1) } : Dk).sector a) = d.sector a from rfl, sector_len hd ha]; omega), List.append_nil]
/-- Power, and no fuse. -/
def Dk.calm (d : Dk) : Prop := d.down = false ∧ d.fuse = -1
theorem write_calm {d : Dk} {n : Nat} (hc : d.calm) {a : Nat} (ha : a < n) {b : List Int} (hb : b.length ≤ 32) : (d.write n (a : Int) b).1 = 0 ∧ (d.write n (a : Int) b).2.calm := by
  obtain ⟨h1, h2⟩ := hc
  unfold Dk.write
  rw [if_pos (by omega), if_neg (by omega), h1, h2]
  simp [Dk.calm]

/-! ## Records -/
theorem tell_one (n : Nat) (x : Int) : tellN [x] = x.toNat := by simp [tellN]
theorem laidB_tell2 {n : Nat} (h : n < 65536) : tellN (laidB n 2) = n := by
  have e : laidB n 2 = [((n / 256 % 256 : Nat) : Int), ((n % 256 : Nat) : Int)] := by simp [laidB, List.range, List.range.loop]
  rw [e]
  simp only [tellN, List.foldl_cons, List.foldl_nil, Int.toNat_natCast]
  omega
theorem laidB_tell4 {n : Nat} (h : n < 4294967296) : tellN (laidB n 4) = n := by
  have e : laidB n 4 = [((n / 16777216 % 256 : Nat) : Int), ((n / 65536 % 256 : Nat) : Int), ((n / 256 % 256 : Nat) : Int), ((n % 256 : Nat) : Int)] := by simp [laidB, List.range, List.range.loop]
  rw [e]
  simp only [tellN, List.foldl_cons, List.foldl_nil, Int.toNat_natCast]
  omega
theorem markL_31 {l : List Int} (h : l.length ≤ 31) : (markL l).getD 31 0 = 165 := by
  have : (markL l)[31]? = some 165 := by
    rw [markL, List.getElem?_append_right (by simp; omega)]
    have e : 31 - (l ++ List.replicate (31 - l.length) 0).length = 0 := by simp; omega
    rw [e]; rfl
  rw [List.getD_eq_getElem?_getD, this]; rfl
theorem first_pre (b : List Int) (gen place : Nat) : (topL b.length gen place ++ laidB (sumL b gen place) 4 ++ b.take 17).length ≤ 31 := by
  simp [topL_len, laidB_len]; omega
theorem first_len (b : List Int) (gen place : Nat) : (firstL b gen place).length = 32 := markL_len (first_pre _ _ _)
theorem first_31 (b : List Int) (gen place : Nat) : (firstL b gen place).getD 31 0 = 165 := markL_31 (first_pre _ _ _)
theorem first_2 (b : List Int) (gen place : Nat) : (firstL b gen place).take 2 = laidB b.length 2 := by
  unfold firstL markL topL
  rw [List.append_assoc, List.append_assoc, List.append_assoc, List.append_assoc, List.append_assoc, List.take_append_of_le_length (by rw [laidB_len]; omega), List.take_of_length_le (by rw [laidB_len]; omega)]
theorem first_14 (b : List Int) (gen place : Nat) : ((firstL b gen place).drop 14).take (min b.length 17) = b.take 17 := by
  unfold firstL markL
  have e : (topL b.length gen place ++ laidB (sumL b gen place) 4).length = 14 := by simp [topL_len, laidB_len]
  rw [List.append_assoc, List.append_assoc, List.drop_append_of_le_length (by omega), List.drop_of_length_le (by omega), List.nil_append]
  rw [List.take_append_of_le_length (by simp; omega), List.take_take]
  by_cases h : 17 ≤ b.length
  · rw [Nat.min_eq_right h]; rfl
  · rw [Nat.min_eq_left (by omega), List.take_of_length_le (by omega), List.take_of_length_le (by omega)]
theorem pad_first (b : List Int) (gen place : Nat) : pad (firstL b gen place) = firstL b gen place := by
  simp [pad, first_len]
/-- A record stands in a half. -/
def Std (d : Dk) (n h gen at_ place : Nat) (b : List Int) : Prop := at_ + (secL b gen place).length ≤ n / 2 ∧ ∀ (i : Nat) w, (secL b gen place)[i]? = some w → d.at n h (at_ + i) = pad w
theorem secL_length (b : List Int) (gen place : Nat) : (secL b gen place).length = 1 + nch (b.drop 17) := by
  simp [secL, chs_len]; omega
theorem nch_le {b : List Int} (h : b.length ≤ 200) : nch (b.drop 17) ≤ 6 := by
  simp [nch]; omega
theorem sec_succ {b : List Int} {gen place j : Nat} (hj : j < nch (b.drop 17)) : (secL b gen place)[1 + j]? = some (chk (b.drop 17) j) := by
  rw [Nat.add_comm, secL, List.getElem?_cons_succ]
  simp [chs, hj]
theorem pad_take {w : List Int} {k : Nat} (h : k ≤ w.length) : (pad w).take k = w.take k := by
  rw [pad, List.take_append_of_le_length h]
theorem gather_law {d : Dk} {n h gen at_ place : Nat} {b : List Int} (hs : Std d n h gen at_ place b) (hb : b.length ≤ 200) : ∀ (f j : Nat), j ≤ nch (b.drop 17) → nch (b.drop 17) ≤ f + j → gatherK d n h at_ b.length f (b.take (17 + 32 * j)) (1 + j) = (b, 1 + nch (b.drop 17))
  | f, j, hj, hf => by
    by_cases he : j = nch (b.drop 17)
    · have hl : b.length ≤ 17 + 32 * j := by
        rw [he]
        simp only [nch, List.length_drop]
        omega
      rw [gatherK_end (by simp; omega), List.take_of_length_le hl, he]
    · have hj2 : j < nch (b.drop 17) := by omega
      have hl : 17 + 32 * j < b.length := by
        have := hj2
        simp only [nch, List.length_drop] at this
        omega
      obtain ⟨f, rfl⟩ : ∃ f', f = f' + 1 := ⟨f - 1, by omega⟩
      have hp := hs.1
      rw [secL_length] at hp
      have hsec := hs.2 (1 + j) _ (sec_succ hj2)
      unfold Dk.at at hsec
      rw [gatherK, if_pos ⟨by rw [List.length_take]; omega, by omega⟩, hsec]
      have hcl : (chk (b.drop 17) j).length = min 32 (b.length - 17 - 32 * j) := by simp; omega
      have e1 : (pad (chk (b.drop 17) j)).take (min (b.length - (b.take (17 + 32 * j)).length) 32) = chk (b.drop 17) j := by
        rw [List.length_take]
        have e2 : min (b.length - min (17 + 32 * j) b.length) 32 = (chk (b.drop 17) j).length := by rw [hcl]; omega
        rw [e2, pad_take (Nat.le_refl _), List.take_length]
      rw [e1]
      have e3 : b.take (17 + 32 * j) ++ chk (b.drop 17) j = b.take (17 + 32 * (j + 1)) := by
        have : 17 + 32 * (j + 1) = (17 + 32 * j) + 32 := by omega
        rw [this, List.take_add (l := b) (i := 17 + 32 * j) (j := 32)]
        simp only [chk, List.drop_drop]
      rw [e3, Nat.add_assoc]
      exact gather_law hs hb f (j + 1) (by omega) (by omega)
theorem stOne_pad {d : Dk} {ix : Nat} {w : List Int} (h : d.sector ix = pad w) : stOne d ix w = true := by
  unfold stOne
  rw [h, pad_take (Nat.le_refl _), List.take_length]
  simp [pad, blankB]
theorem rec_stands {d : Dk} {n h gen at_ place : Nat} {b : List Int} (hs : Std d n h gen at_ place b) (hb : b.length ≤ 200) : recOne d n h gen at_ place = some ((secL b gen place).length, b) := by
  have h0 := hs.2 0 (firstL b gen place) (by simp [secL])
  rw [Nat.add_zero, pad_first] at h0
  unfold Dk.at at h0
  unfold recOne
  simp only [h0, first_2, laidB_tell2 (show b.length < 65536 by omega), first_14]
  rw [if_neg (by omega)]
  have hg := gather_law hs hb 200 0 (by omega) (by have := nch_le hb; omega)
  simp only [Nat.mul_zero, Nat.add_zero] at hg
  simp only [hg]
  rw [if_neg (by omega), if_pos, secL_length]
  refine standB_yes fun i w hw => stOne_pad ?_
  exact hs.2 i w hw
theorem take_getD {l : List Int} {k i : Nat} (h : i < k) : (l.take k).getD i 0 = l.getD i 0 := by
  rw [List.getD_eq_getElem?_getD, List.getD_eq_getElem?_getD, List.getElem?_take, if_pos h]
theorem rec_ends {d : Dk} {n h gen at_ place : Nat} (hz : (d.at n h at_).getD 31 0 ≠ 165) : recOne d n h gen at_ place = none := by
  unfold recOne
  simp only
  split
  · rfl
  · split
    · rfl
    · split
      · rename_i hst
        exfalso
        unfold standB at hst
        rw [List.all_eq_true] at hst
        have h1 := hst 0 (List.mem_range.2 (by simp [secL]))
        simp only [secL, List.getD_cons_zero, Nat.add_zero, stOne, Bool.and_eq_true, decide_eq_true_eq, first_len] at h1
        have h2 := h1.1
        have h3 := take_getD (l := d.sector (h * (n / 2) + at_)) (show 31 < 32 by omega)
        rw [h2, first_31] at h3
        exact hz h3.symm
      · rfl
/-- Records stand, one behind the other: up to a sector. -/
def Chain (d : Dk) (n h gen : Nat) : Nat → Nat → List (List Int) → Nat → Prop
  | at_, _, [], fin => fin = at_
  | at_, place, b :: l, fin => Std d n h gen at_ place b ∧ b.length ≤ 200 ∧ Chain d n h gen (at_ + (secL b gen place).length) (place + 1) l fin
def pairs (gen : Nat) : Nat → List (List Int) → List (Nat × List Int)
  | _, [] => []
  | place, b :: l => ((secL b gen place).length, b) :: pairs gen (place + 1) l
theorem pairs_snd {gen : Nat} : ∀ (place : Nat) (l : List (List Int)), (pairs gen place l).map (·.2) = l
  | _, [] => rfl
  | place, b :: l => by simp [pairs, pairs_snd (place + 1) l]
theorem chain_sum {d : Dk} {n h gen : Nat} : ∀ (l : List (List Int)) {at_ place fin : Nat}, Chain d n h gen at_ place l fin → at_ + sumK (pairs gen place l) = fin
  | [], at_, place, fin, h => by simp [pairs, sumK]; exact h.symm
  | b :: l, at_, place, fin, h => by
    have := chain_sum l h.2.2
    simp only [pairs, sumK, List.map_cons, List.sum_cons] at this ⊢
    omega
theorem chain_fin {d : Dk} {n h gen : Nat} : ∀ (l : List (List Int)) {at_ place fin : Nat}, Chain d n h gen at_ place l fin → at_ ≤ n / 2 → at_ + l.length ≤ fin ∧ fin ≤ n / 2
  | [], at_, place, fin, h, ha => by simp only [Chain] at h; subst h; simp; omega
  | b :: l, at_, place, fin, h, ha => by
    have := chain_fin l h.2.2 h.1.1
    rw [secL_length] at this
    simp only [List.length_cons]
    omega
theorem chain_recs {d : Dk} {n h gen : Nat} : ∀ (l : List (List Int)) {at_ place fin : Nat} (f : Nat), Chain d n h gen at_ place l fin → n / 2 ≤ at_ + f → at_ ≤ n / 2 → (fin < n / 2 → (d.at n h fin).getD 31 0 ≠ 165) → recsK d n h gen f at_ place = pairs gen place l
  | [], at_, place, fin, f, hc, hf, ha, hz => by
    simp only [Chain] at hc
    subst hc
    cases f with
    | zero => rfl
    | succ f =>
      rw [recsK]
      split
      · rename_i hlt
        rw [rec_ends (hz hlt)]
        rfl
      · rfl
  | b :: l, at_, place, fin, f, hc, hf, ha, hz => by
    have hs := hc.1
    have hp := hs.1
    rw [secL_length] at hp
    obtain ⟨f, rfl⟩ : ∃ f', f = f' + 1 := ⟨f - 1, by omega⟩
    rw [recsK, if_pos (by omega), rec_stands hs hc.2.1]
    simp only [pairs]
    rw [chain_recs l f hc.2.2 (by rw [secL_length]; omega) hs.1 hz]
theorem std_congr {d d' : Dk} {n h gen at_ place : Nat} {b : List Int} (hs : Std d n h gen at_ place b) (hq : ∀ i, at_ ≤ i → i < at_ + (secL b gen place).length → d'.at n h i = d.at n h i) : Std d' n h gen at_ place b :=
  ⟨hs.1, fun i w hw => by
    rw [hq (at_ + i) (by omega) (by have := (List.getElem?_eq_some_iff.1 hw).1; omega)]
    exact hs.2 i w hw⟩
theorem chain_congr {d d' : Dk} {n h gen : Nat} : ∀ (l : List (List Int)) {at_ place fin : Nat}, Chain d n h gen at_ place l fin → at_ ≤ n / 2 → (∀ i, at_ ≤ i → i < fin → d'.at n h i = d.at n h i) → Chain d' n h gen at_ place l fin
  | [], at_, place, fin, h, ha, hq => h
  | b :: l, at_, place, fin, h, ha, hq => by
    have hf := chain_fin l h.2.2 h.1.1
    exact ⟨std_congr h.1 fun i h1 h2 => hq i h1 (by omega), h.2.1, chain_congr l h.2.2 h.1.1 fun i h1 h2 => hq i (by omega) h2⟩
theorem chain_snoc {d : Dk} {n h gen : Nat} {b : List Int} : ∀ (l : List (List Int)) {at_ place fin : Nat}, Chain d n h gen at_ place l fin → Std d n h gen fin (place + l.length) b → b.length ≤ 200 → Chain d n h gen at_ place (l ++ [b]) (fin + (secL b gen (place + l.length)).length)
  | [], at_, place, fin, h, hs, hb => by
    simp only [Chain] at h
    subst h
    exact ⟨hs, hb, rfl⟩
  | c :: l, at_, place, fin, h, hs, hb => by
    have e : place + (c :: l).length = place + 1 + l.length := by simp; omega
    rw [e] at hs ⊢
    exact ⟨h.1, h.2.1, chain_snoc l h.2.2 hs hb⟩
end Go.Proofs.Ytifhbgppjblobaa
