/- What a half tells. -/
import Derived.Test.YtifhbgppjblobaaLogJ
namespace Go.Proofs.Ytifhbgppjblobaa
open Go Go.VX Go.RowKit
set_option linter.unusedVariables false
set_option linter.unusedSimpArgs false
set_option maxHeartbeats 20000000
set_option maxRecDepth 100000

def genL (d : Dk) (n h : Nat) : Nat := if 2147483647 < tellN ((d.sector (h * (n / 2))).take 4) ∨ d.sector (h * (n / 2)) ≠ headL (tellN ((d.sector (h * (n / 2))).take 4)) then 0 else tellN ((d.sector (h * (n / 2))).take 4)
theorem tell_lt4 {l : List Int} (hb : byteL l) (h : l.length ≤ 4) : tellN l < 4294967296 := by
  have := tell_lt hb l.length (Nat.le_refl _)
  rw [List.take_length] at this
  have h2 : 256 ^ l.length ≤ 256 ^ 4 := Nat.pow_le_pow_right (by omega) h
  have h3 : 256 ^ 4 = 4294967296 := by decide
  omega
theorem take_byte {l : List Int} (hb : byteL l) (k : Nat) : byteL (l.take k) := fun x hx => hb x (List.mem_of_mem_take hx)
theorem headL_len (gen : Nat) : (headL gen).length = 32 := markL_len (by simp [laidB_len])
theorem generation2_spec (g : Lg) (d : Dk) (n : Nat) (hd : d.ok n) (hbt : byteL d.B) (h : Nat) (hix : h * (n / 2) + 0 < n) : VC P 31 [.ptr 0 6 0, .int .i64 h] (lobs g d n) (fun r ob' => r = .int .u32 (genL d n h : Int) ∧ ob' = lobs g d n) := by
  refine VC_of_vwp_k ent_31 Try.func31 rfl (by simp) fun R hR => ?_
  refine vwp_sq [0, 1] fun K1 hK1 => vwp_region hT ?_
  simp
  refine hK1 _ ?_
  try clear hK1 K1
  have hrd := lread_spec g d n hd h 0 hix
  rw [Nat.add_zero] at hrd hix
  obtain ⟨s, hs⟩ : ∃ s, s = d.sector (h * (n / 2)) := ⟨_, rfl⟩
  have hsl : s.length = 32 := by rw [hs]; exact sector_len hd hix
  have hsb : byteL s := by rw [hs]; exact sector_byte hbt _
  rw [← hs] at hrd
  refine vwp_sq [0, 1] fun K2 hK2 => vwp_region hT ?_
  simp
  refine vcall_k [0, 1, 2, 3] (hrd) ?_
  rintro r ob' ⟨rfl, rfl⟩
  simp
  refine hK2 _ ?_
  try clear hK2 K2
  refine vwp_gh (Gh.freeze 4 (by rfl) (by intro c hc; simp at hc; obtain ⟨z, _, rfl⟩ := hc; rfl)) ?_
  refine vwp_gh (st' := ⟨[(5, sB s)], lobs g d n⟩) (Gh.to_k [5] [0, 1, 2, 3] (he := by simp [hsl, List.take_of_length_le]) (hs := by simp [hsl])) ?_
  obtain ⟨q, hq⟩ : ∃ q, q = s.take 4 := ⟨_, rfl⟩
  have hql : q.length = 4 := by rw [hq, List.length_take]; omega
  have hqb : byteL q := by rw [hq]; exact take_byte hsb 4
  have hqt : List.take 4 (bts s) = bts q := by rw [hq, ← List.map_take]
  have htl := told_spec q (by omega) hqb
  obtain ⟨v, hv⟩ : ∃ v, v = tellN q := ⟨_, rfl⟩
  have hvl : v < 4294967296 := by rw [hv]; exact tell_lt4 hqb (by omega)
  rw [← hv] at htl
  have hgen : genL d n h = if 2147483647 < v ∨ s ≠ headL v then 0 else v := by rw [genL, ← hs, ← hq, ← hv]
  refine vwp_sq [5] fun K3 hK3 => vwp_region hT ?_
  simp [hqt]
  repeat refine ⟨by first | assumption | omega | (intros; omega), ?_⟩
  refine vcall_k [] (htl) ?_ (ha := by simp [hql])
  rintro r ob' ⟨rfl, rfl⟩
  simp [hqt]
  repeat refine ⟨by first | assumption | omega | (intros; omega), ?_⟩
  refine hK3 _ ?_
  try clear hK3 K3
  refine vwp_seq_k fun K4 hK4 => ?_
  refine vwp_seq_k fun K5 hK5 => ?_
  by_cases hbig : 2147483647 < v
  · have hb1 : (2147483647 : Int) < (v : Int) := by omega
    have hb2 : ¬ (v : Int) ≤ 2147483647 := by omega
    refine vwp_live [5, 6] (vwp_region hT ?_)
    simp [hb1, hb2]
    refine hK5 _ ?_
    try clear hK5 K5
    refine vwp_cond (by first | rfl | (simp; rfl)) (fun h1 => ?_) fun h1 => ?_
    · simp -failIfUnchanged at h1; all_goals
     refine vwp_sq [] fun K6 hK6 => vwp_region hT ?_
     simp
     refine hK6 _ ?_
     try clear hK6 K6
     refine vwp_ret (hR _ _ ?_)
     have e : genL d n h = 0 := by rw [hgen, if_pos (.inl hbig)]
     rw [e]
     exact ret_k [4] [0, 1, 2, 3] (lobs g d n) (.int .u32 0) (⟨rfl, rfl⟩)
    · simp -failIfUnchanged at h1; all_goals
     refine vwp_skip ?_
     refine hK4 _ ?_
     try clear hK4 K4
     refine vwp_seq_k fun K7 hK7 => ?_
     simp at *
  · have hb1 : ¬ (2147483647 : Int) < (v : Int) := by omega
    have hb2 : (v : Int) ≤ 2147483647 := by omega
    refine vwp_live [5, 6] (vwp_region hT ?_)
    simp [hb1, hb2]
    refine vcall_k [] (header_spec v hvl) ?_
    rintro r ob' ⟨rfl, rfl⟩
    simp [hb1, hb2]
    refine vcall_z [] (bequal_spec s (headL v) (by omega) (by rw [headL_len]; omega)) (by rintro r ob' ⟨rfl, rfl⟩; simp) ?_ (ha := by simp [headL_len, List.take_of_length_le]) (hok := by simp [headL_len])
    rintro r ob' ⟨rfl, rfl⟩
    simp [hb1, hb2]
    refine hK5 _ ?_
    try clear hK5 K5
    refine vwp_cond (by first | rfl | (simp; rfl)) (fun h2 => ?_) fun h2 => ?_
    · simp -failIfUnchanged at h2; all_goals
     have hne : s ≠ headL v := by simpa using h2
     refine vwp_sq [] fun K8 hK8 => vwp_region hT ?_
     simp
     refine hK8 _ ?_
     try clear hK8 K8
     refine vwp_ret (hR _ _ ?_)
     have e : genL d n h = 0 := by rw [hgen, if_pos (.inr hne)]
     rw [e]
     exact ret_k [4] [0, 1, 2, 3] (lobs g d n) (.int .u32 0) (⟨rfl, rfl⟩)
    · simp -failIfUnchanged at h2; all_goals
     have heq : s = headL v := by simpa using h2
     refine vwp_skip ?_
     refine hK4 _ ?_
     try clear hK4 K4
     refine vwp_sq [6] fun K9 hK9 => vwp_region hT ?_
     simp
     refine hK9 _ ?_
     try clear hK9 K9
     refine vwp_ret (hR _ _ ?_)
     have e : genL d n h = v := by rw [hgen, if_neg (by rintro (q | q); exact hbig q; exact q heq)]
     rw [e]
     exact ret_k [4] [0, 1, 2, 3] (lobs g d n) (.int .u32 (v : Int)) (⟨rfl, rfl⟩)
end Go.Proofs.Ytifhbgppjblobaa
