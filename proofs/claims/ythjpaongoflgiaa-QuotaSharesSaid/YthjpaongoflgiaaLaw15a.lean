/- Quota: the statements. -/
import Derived.Test.YthjpaongoflgiaaQuota4
namespace Go.Proofs.Ythjpaongoflgiaa
open Go Go.VX Go.RowKit
set_option linter.unusedVariables false
set_option linter.unusedSimpArgs false
set_option maxHeartbeats 20000000
set_option maxRecDepth 100000
open Go.VX.Rk Go.VX.Srt

theorem resI_nofz {x : Option (List Int) × Int} : ∀ r ob, resI x r ob → r.nofz = true ∧ ∀ o ∈ ob, o.nofz = true := by
  obtain ⟨_ | l, e⟩ := x
  · rintro r ob ⟨rfl, rfl⟩; simp
  · rintro r ob ⟨rfl, rfl⟩; simp
theorem ints_nils : VC P 16 [.nils, .nils] [] (fun r ob' => r = .bool true ∧ ob' = []) := by
  refine ((ints_spec [] [] (by simp) (by simp)).weak fun E vals h => ?_).mono fun r ob' q => by simpa using q
  obtain ⟨u, r, e1, _, h1, u2, r2, e2, _, h2, h3⟩ := h
  exact ⟨u, r, e1, trivial, h1.nil_fs, u2, r2, e2, trivial, h2.nil_fs, h3⟩
theorem roundN_len {l q : List Int} {over e : Int} (h : roundN l over = (some q, e)) : q.length = l.length ∧ l.length ≤ 100 := by
  unfold roundN at h
  split at h
  · cases h
  split at h
  · cases h
  split at h
  · cases h
  · cases h; exact ⟨fr_length _ _, by omega⟩
theorem shareN_len {t : Int} {w q : List Int} {e : Int} (h : shareN t w = (some q, e)) : q.length = w.length ∧ w.length ≤ 100 := by
  unfold shareN at h
  split at h
  · cases h
  split at h
  · cases h
  split at h
  · cases h; exact ⟨by simp, by omega⟩
  split at h
  · cases h
  · cases h; exact ⟨by rw [fr_length]; simp, by omega⟩

theorem aw1 : roundN [5, 5, 2] 4 = (some [1, 1, 1], 0) := by decide +kernel
theorem aw2 : shareN 10 [1, 1, 1] = (some [4, 3, 3], 0) := by decide +kernel
theorem aw3 : roundN [5] 4 = (none, 2) := by decide +kernel
theorem aw4 : shareN 1 [] = (none, 2) := by decide +kernel
theorem aw5 : shareN 0 [0] = (some [0], 0) := by decide +kernel
theorem qshare_nil : VC P 14 [.int .i64 1, .nils] [] (fun r ob' => resI (shareN 1 []) r ob') := by
  refine (qshare_spec 1 [] (by simp)).weak fun E vals h => ?_
  obtain ⟨u, r, e1, _, h1, u2, r2, e2, _, h2, h3⟩ := h
  exact ⟨u, r, e1, trivial, h1, u2, r2, e2, trivial, h2.nil_fs, h3⟩
theorem awake15_spec  : VC P 11 [] [] (fun r ob' => r = .bool true ∧ ob' = []) := by
  refine VC_of_vwp_k ent_11 Try.func11 rfl (by simp) fun R hR => ?_
  refine vwp_sq [] fun K1 hK1 => vwp_region hT ?_
  simp [zerosV, spl]
  refine hK1 _ ?_
  try clear hK1 K1
  refine vwp_sq [] fun K2 hK2 => vwp_region hT ?_
  simp [zerosV, spl]
  refine vcall_z [] (round_spec [5, 5, 2] (by simp) 4) resI_nofz ?_
  rintro r ob' hr
  rw [aw1] at hr
  obtain ⟨rfl, rfl⟩ := hr
  simp [zerosV, spl]
  refine hK2 _ ?_
  try clear hK2 K2
  refine vwp_sq [1, 2] fun K3 hK3 => vwp_region hT ?_
  simp [zerosV, spl]
  refine vcall_z [] (qshare_spec 10 [1, 1, 1] (by simp)) resI_nofz ?_
  rintro r ob' hr
  rw [aw2] at hr
  obtain ⟨rfl, rfl⟩ := hr
  simp [zerosV, spl]
  refine hK3 _ ?_
  try clear hK3 K3
  refine vwp_sq [1, 2, 3, 4] fun K4 hK4 => vwp_region hT ?_
  simp [zerosV, spl]
  refine vcall_z [] (round_spec [5] (by simp) 4) resI_nofz ?_
  rintro r ob' hr
  rw [aw3] at hr
  obtain ⟨rfl, rfl⟩ := hr
  simp [zerosV, spl]
  refine hK4 _ ?_
  try clear hK4 K4
  refine vwp_sq [1, 2, 3, 4, 6] fun K5 hK5 => vwp_region hT ?_
  simp [zerosV, spl]
  refine vcall_z [] (qshare_nil) resI_nofz ?_
  rintro r ob' hr
  rw [aw4] at hr
  obtain ⟨rfl, rfl⟩ := hr
  simp [zerosV, spl]
  refine hK5 _ ?_
  try clear hK5 K5
  refine vwp_sq [1, 2, 3, 4, 6, 8] fun K6 hK6 => vwp_region hT ?_
  simp [zerosV, spl]
  refine vcall_z [] (qshare_spec 0 [0] (by simp)) resI_nofz ?_
  rintro r ob' hr
  rw [aw5] at hr
  obtain ⟨rfl, rfl⟩ := hr
  simp [zerosV, spl]
  refine hK6 _ ?_
  try clear hK6 K6
  refine vwp_sq [1, 2, 3, 4, 6, 8, 9, 10] fun K7 hK7 => vwp_region hT ?_
  simp [zerosV, spl]
  refine vcall_z [] (ints_spec [1, 1, 1] [1, 1, 1] (by simp) (by simp)) (by rintro r ob' ⟨rfl, rfl⟩; simp) ?_
  rintro r ob' ⟨rfl, rfl⟩
  simp [zerosV, spl]
  refine vcall_z [] (ints_spec [4, 3, 3] [4, 3, 3] (by simp) (by simp)) (by rintro r ob' ⟨rfl, rfl⟩; simp) ?_
  rintro r ob' ⟨rfl, rfl⟩
  simp [zerosV, spl]
  refine vcall_z [] (ints_spec [0] [0] (by simp) (by simp)) (by rintro r ob' ⟨rfl, rfl⟩; simp) ?_
  rintro r ob' ⟨rfl, rfl⟩
  simp [zerosV, spl]
  refine hK7 _ ?_
  try clear hK7 K7
  refine vwp_ret (hR _ _ ?_)
  exact ret_k [0] [] ([]) (.bool true) (⟨rfl, rfl⟩)
end Go.Proofs.Ythjpaongoflgiaa
