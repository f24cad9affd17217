/- Wiping a half; laying sectors; where there is no log. -/
import Derived.Test.YtifhbgppjblobaaLogM
namespace Go.Proofs.Ytifhbgppjblobaa
open Go Go.VX Go.RowKit
set_option linter.unusedVariables false
set_option linter.unusedSimpArgs false
set_option maxHeartbeats 20000000
set_option maxRecDepth 100000

/-- Sectors of a half are wiped, from the last one down. -/
def wipeK (n h down : Nat) : Nat → Lg → Dk → Int × Lg × Dk
  | 0, g, d => (0, g, d)
  | k + 1, g, d =>
    if blankB (d.sector (h * (n / 2) + (down + k))) = true then wipeK n h down k g d
    else if (d.write n ((h * (n / 2) + (down + k) : Nat) : Int) []).1 = 0 then wipeK n h down k (g.wrote 0) (d.write n ((h * (n / 2) + (down + k) : Nat) : Int) []).2
    else ((d.write n ((h * (n / 2) + (down + k) : Nat) : Int) []).1, g.wrote (d.write n ((h * (n / 2) + (down + k) : Nat) : Int) []).1, (d.write n ((h * (n / 2) + (down + k) : Nat) : Int) []).2)
theorem wipe_spec (g : Lg) (d : Dk) (n : Nat) (hd : d.ok n) (h down : Nat) (hh : h ≤ 1) (hdn : down ≤ n / 2) : VC P 34 [.ptr 0 6 0, .int .i64 h, .int .i64 down] (lobs g d n) (fun r ob' => r = .int .i64 (wipeK n h down (n / 2 - down) g d).1 ∧ ob' = lobs (wipeK n h down (n / 2 - down) g d).2.1 (wipeK n h down (n / 2 - down) g d).2.2 n) := by
  refine VC_of_vwp_k ent_34 Try.func34 rfl (by simp) fun R hR => ?_
  refine vwp_sq [0, 1, 2] fun K1 hK1 => vwp_region hT ?_
  simp
  refine hK1 _ ?_
  try clear hK1 K1
  refine vwp_seq_k fun K2 hK2 => ?_
  have hn4 := hd.n4
  obtain ⟨p, hp⟩ : ∃ p, p = n / 2 := ⟨_, rfl⟩
  have hps := per_spec g d n hn4
  rw [← hp] at hps hdn
  have hp2 : p ≤ 2048 := by omega
  have hhp : h * p + p ≤ n := by
    have : h = 0 ∨ h = 1 := by omega
    rcases this with e | e <;> subst e <;> omega
  have w1 : IntKind.i64.wrap ((p : Int) - 1) = (p : Int) - 1 := w64 (by omega) (by omega)
  obtain ⟨tot, htot⟩ : ∃ tot, tot = p - down := ⟨_, rfl⟩
  obtain ⟨res, hres⟩ : ∃ res, res = wipeK n h down tot g d := ⟨_, rfl⟩
  refine vwp_sq [0, 1, 2] fun K3 hK3 => vwp_region hT ?_
  simp [w1]
  refine vcall_k [0, 1, 2, 3] (hps) ?_
  rintro r ob' ⟨rfl, rfl⟩
  simp [w1]
  refine hK3 _ ?_
  try clear hK3 K3
  refine vwp_block ?_
  refine vwp_loop_s (fun u : Nat × Lg × Dk => ⟨[(0, .ptr 0 6 0), (1, .int .i64 h), (2, .int .i64 down), (7, .int .i64 ((down : Int) + u.1 - 1))], lobs u.2.1 u.2.2 n⟩) (fun u => u.1 ≤ tot ∧ u.2.2.ok n ∧ wipeK n h down u.1 u.2.1 u.2.2 = res) (fun u => u.1) ((tot, g, d)) (Gh.to_k [0, 1, 2, 7] [0, 1, 2, 3] (he := by simp; omega)) (⟨Nat.le_refl _, hd, hres.symm⟩) ?_
  rintro ⟨k, g2, d2⟩ ⟨hk, hd2, hw⟩
  dsimp only at hk hd2 hw ⊢
  intro K4 hK4
  refine vwp_seq_k fun K5 hK5 => ?_
  refine vwp_sq [0, 1, 2, 7] fun K6 hK6 => vwp_region hT ?_
  simp
  refine hK6 _ ?_
  try clear hK6 K6
  refine vwp_cond (by first | rfl | (simp; rfl)) (fun h1 => ?_) fun h1 => ?_
  · simp -failIfUnchanged at h1; all_goals
   have q := h1
   obtain ⟨k1, rfl⟩ : ∃ k1, k = k1 + 1 := ⟨k - 1, by omega⟩
   refine vwp_skip ?_
   refine hK5 _ ?_
   try clear hK5 K5
   refine vwp_seq_k fun K7 hK7 => ?_
   refine vwp_block ?_
   refine vwp_seq_k fun K8 hK8 => ?_
   have hat : (down : Int) + ((k1 + 1 : Nat) : Int) - 1 = ((down + k1 : Nat) : Int) := by omega
   have hrd := lread_spec g2 d2 n hd2 h (down + k1) (by rw [← hp]; omega)
   obtain ⟨s, hs⟩ : ∃ s, s = d2.sector (h * (n / 2) + (down + k1)) := ⟨_, rfl⟩
   have hsl : s.length = 32 := by rw [hs]; exact sector_len hd2 (by rw [← hp]; omega)
   rw [← hs] at hrd
   obtain ⟨dk, hdk⟩ : ∃ dk, dk = down + k1 := ⟨_, rfl⟩
   rw [← hdk] at hrd
   have hat2 : (down : Int) + ((k1 : Int) + 1) - 1 = (dk : Int) := by omega
   have hbs := blank_spec s (by omega)
   refine vwp_sq [0, 1, 2, 7] fun K9 hK9 => vwp_region hT ?_
   simp [hat2]
   refine vcall_k [0, 1, 2, 3] (hrd) ?_
   rintro r ob' ⟨rfl, rfl⟩
   simp [hat2]
   refine vcall_z [] (hbs) (by rintro r ob' ⟨rfl, rfl⟩; simp) ?_ (ha := by simp [hsl, List.take_of_length_le]) (hok := by simp [hsl])
   rintro r ob' ⟨rfl, rfl⟩
   simp [hat2]
   refine hK9 _ ?_
   try clear hK9 K9
   refine vwp_cond (by first | rfl | (simp; rfl)) (fun h2 => ?_) fun h2 => ?_
   · simp -failIfUnchanged at h2; all_goals
    have hbl : blankB s = true := by simpa using h2
    have hw3 : wipeK n h down k1 g2 d2 = res := by
      rw [wipeK, if_pos (by rw [← hs]; exact hbl)] at hw
      exact hw
    refine vwp_exit ?_
    simp only [inBlk, thenQ, if_true]
    refine hK7 _ ?_
    try clear hK7 K7
    have w1 : IntKind.i64.wrap ((dk : Int) - 1) = (dk : Int) - 1 := w64 (by omega) (by omega)
    refine vwp_live [0, 1, 2, 7] (vwp_region hT ?_)
    simp [hat2, w1]
    exact hK4 (k1, g2, d2) _ (Gh.to_k [0, 1, 2, 7] [0, 1, 2, 3] (he := by simp; omega)) (⟨by dsimp only; omega, hd2, hw3⟩) (by dsimp only; omega)
   · simp -failIfUnchanged at h2; all_goals
    have hbl : ¬ blankB s = true := by simpa using h2
    refine vwp_skip ?_
    refine hK8 _ ?_
    try clear hK8 K8
    have hws := lwrite_nil g2 d2 n hd2 h dk (by rw [← hp]; omega)
    obtain ⟨we, hwe⟩ : ∃ we, we = (d2.write n ((h * (n / 2) + dk : Nat) : Int) []).1 := ⟨_, rfl⟩
    obtain ⟨d3, hd3e⟩ : ∃ d3, d3 = (d2.write n ((h * (n / 2) + dk : Nat) : Int) []).2 := ⟨_, rfl⟩
    have hd3 : d3.ok n := by rw [hd3e]; exact write_ok hd2 _ _
    rw [← hwe, ← hd3e] at hws
    rw [wipeK, if_neg (by rw [← hs]; exact hbl), ← hdk, ← hwe, ← hd3e] at hw
    refine vwp_sq [0, 1, 2, 7] fun K10 hK10 => vwp_region hT ?_
    simp [hat2]
    refine vcall_k [0, 1, 2, 3] (hws) ?_
    rintro r ob' ⟨rfl, rfl⟩
    simp [hat2]
    refine hK10 _ ?_
    try clear hK10 K10
    refine vwp_sq [0, 1, 2, 7, 8] fun K11 hK11 => vwp_region hT ?_
    simp
    refine hK11 _ ?_
    try clear hK11 K11
    refine vwp_cond (by first | rfl | (simp; rfl)) (fun h3 => ?_) fun h3 => ?_
    · simp -failIfUnchanged at h3; all_goals
     have he0 : ¬ we = 0 := by simpa using h3
     rw [if_neg he0] at hw
     refine vwp_sq [8] fun K12 hK12 => vwp_region hT ?_
     simp
     refine hK12 _ ?_
     try clear hK12 K12
     refine vwp_ret (hR _ _ ?_)
     rw [← hp, ← htot, ← hres, ← hw]
     exact ret_k [6] [0, 1, 2, 3] (lobs (g2.wrote we) d3 n) (.int .i64 we) (⟨rfl, rfl⟩)
    · simp -failIfUnchanged at h3; all_goals
     have he0 : we = 0 := by simpa using h3
     rw [if_pos he0] at hw
     subst he0
     obtain ⟨g3, hg3⟩ : ∃ g3, g3 = g2.wrote 0 := ⟨_, rfl⟩
     have hw3 : wipeK n h down k1 g3 d3 = res := by rw [hg3]; exact hw
     try rw [← hg3]
     refine vwp_skip ?_
     refine hK7 _ ?_
     try clear hK7 K7
     have w1 : IntKind.i64.wrap ((dk : Int) - 1) = (dk : Int) - 1 := w64 (by omega) (by omega)
     refine vwp_live [0, 1, 2, 7] (vwp_region hT ?_)
     simp [hat2, w1]
     exact hK4 ((k1, g3, d3)) _ (Gh.to_k [0, 1, 2, 7] [0, 1, 2, 3] (he := by simp; omega)) (⟨by dsimp only; omega, hd3, hw3⟩) (by dsimp only; omega)
  · simp -failIfUnchanged at h1; all_goals
   have q := h1
   have hk0 : k = 0 := by omega
   rw [hk0, wipeK] at hw
   refine vwp_exit ?_
   simp only [inBlk, thenQ, if_true]
   refine hK2 _ ?_
   try clear hK2 K2
   refine vwp_sq [] fun K13 hK13 => vwp_region hT ?_
   simp
   refine hK13 _ ?_
   try clear hK13 K13
   refine vwp_ret (hR _ _ ?_)
   rw [← hp, ← htot, ← hres, ← hw]
   exact ret_k [6] [0, 1, 2, 3] (lobs g2 d2 n) (.int .i64 0) (⟨rfl, rfl⟩)

/-- Sectors are laid, the first one last: so many are left. -/
def layK (n h at_ : Nat) (ss : List (List Int)) : Nat → Lg → Dk → Int × Lg × Dk
  | 0, g, d => (0, g, d)
  | r + 1, g, d =>
    if (d.write n ((h * (n / 2) + (at_ + (ss.length - r) % ss.length) : Nat) : Int) (ss.getD ((ss.length - r) % ss.length) [])).1 = 0 then
      layK n h at_ ss r (g.wrote 0) (d.write n ((h * (n / 2) + (at_ + (ss.length - r) % ss.length) : Nat) : Int) (ss.getD ((ss.length - r) % ss.length) [])).2
    else ((d.write n ((h * (n / 2) + (at_ + (ss.length - r) % ss.length) : Nat) : Int) (ss.getD ((ss.length - r) % ss.length) [])).1, g.wrote (d.write n ((h * (n / 2) + (at_ + (ss.length - r) % ss.length) : Nat) : Int) (ss.getD ((ss.length - r) % ss.length) [])).1, (d.write n ((h * (n / 2) + (at_ + (ss.length - r) % ss.length) : Nat) : Int) (ss.getD ((ss.length - r) % ss.length) [])).2)
theorem lay_spec (g : Lg) (d : Dk) (n : Nat) (hd : d.ok n) (h at_ : Nat) (ss : List (List Int)) (hix : h * (n / 2) + (at_ + ss.length) ≤ n) : VC P 36 [.ptr 0 6 0, .int .i64 h, .int .i64 at_, sBB ss] (lobs g d n) (fun r ob' => r = .int .i64 (layK n h at_ ss ss.length g d).1 ∧ ob' = lobs (layK n h at_ ss ss.length g d).2.1 (layK n h at_ ss ss.length g d).2.2 n) := by
  refine VC_of_vwp_k ent_36 Try.func36 rfl (by simp) fun R hR => ?_
  refine vwp_sq [0, 1, 2, 3] fun K1 hK1 => vwp_region hT ?_
  simp
  refine hK1 _ ?_
  try clear hK1 K1
  refine vwp_seq_k fun K2 hK2 => ?_
  have hn4 := hd.n4
  obtain ⟨res, hres⟩ : ∃ res, res = layK n h at_ ss ss.length g d := ⟨_, rfl⟩
  refine vwp_sq [0, 1, 2, 3] fun K3 hK3 => vwp_region hT ?_
  simp
  refine hK3 _ ?_
  try clear hK3 K3
  refine vwp_block ?_
  refine vwp_loop_s (fun u : Nat × Lg × Dk => ⟨[(0, .ptr 0 6 0), (1, .int .i64 h), (2, .int .i64 at_), (3, sBB ss), (13, .int .i64 ss.length), (14, .int .i64 (u.1 : Int))], lobs u.2.1 u.2.2 n⟩) (fun u => u.1 ≤ ss.length ∧ u.2.2.ok n ∧ layK n h at_ ss (ss.length - u.1) u.2.1 u.2.2 = res) (fun u => ss.length - u.1) ((0, g, d)) (Gh.to_k [0, 1, 2, 3, 13, 14] [0, 1, 2, 3]) (⟨by simp, hd, hres.symm⟩) ?_
  rintro ⟨i, g2, d2⟩ ⟨hi, hd2, hw⟩
  dsimp only at hi hd2 hw ⊢
  intro K4 hK4
  refine vwp_sq [0, 1, 2, 3, 13, 14] fun K5 hK5 => vwp_region hT ?_
  simp
  refine hK5 _ ?_
  try clear hK5 K5
  refine vwp_seq_k fun K6 hK6 => ?_
  refine vwp_cond (by first | rfl | (simp; rfl)) (fun h1 => ?_) fun h1 => ?_
  · simp -failIfUnchanged at h1; all_goals
   refine vwp_skip ?_
   refine hK6 _ ?_
   try clear hK6 K6
   refine vwp_seq_k fun K7 hK7 => ?_
   refine vwp_block ?_
   refine vwp_sq [0, 1, 2, 3, 13, 14] fun K8 hK8 => vwp_region hT ?_
   simp
   refine hK8 _ ?_
   try clear hK8 K8
   obtain ⟨r, hr⟩ : ∃ r, r = ss.length - (i + 1) := ⟨_, rfl⟩
   have hr1 : ss.length - i = r + 1 := by omega
   have hri : ss.length - r = i + 1 := by omega
   rw [hr1, layK, hri] at hw
   obtain ⟨k, hk⟩ : ∃ k, k = (i + 1) % ss.length := ⟨_, rfl⟩
   have hkl : k < ss.length := by rw [hk]; exact Nat.mod_lt _ (by omega)
   rw [← hk] at hw
   obtain ⟨b, hb⟩ := getI (l := ss) (i := k) (by omega)
   have hbd : ss.getD k [] = b := by rw [List.getD_eq_getElem?_getD, hb]; rfl
   rw [hbd] at hw
   have w1 : IntKind.i64.wrap ((i : Int) + 1) = ((i + 1 : Nat) : Int) := w64 (by omega) (by omega)
   have w2 : ((i : Int) + 1).tmod (ss.length : Int) = (k : Int) := by rw [hk]; rfl
   have w3 : ¬ (ss.length : Int) = 0 := by omega
   have hne : ¬ ss = [] := fun e => by rw [e] at hkl; simp at hkl
   refine vwp_sq [0, 1, 2, 3, 9, 13, 14] fun K9 hK9 => vwp_region hT ?_
   simp [w1, w2, w3, hne]
   repeat refine ⟨by first | assumption | omega | (intros; omega), ?_⟩
   refine hK9 _ ?_
   try clear hK9 K9
   obtain ⟨ak, hak⟩ : ∃ ak, ak = at_ + k := ⟨_, rfl⟩
   rw [← hak] at hw
   have w4 : IntKind.i64.wrap ((at_ : Int) + (k : Int)) = (ak : Int) := (w64 (by omega) (by omega)).trans (by omega)
   have hws := lwrite_spec g2 d2 n hd2 h ak (by omega) b
   obtain ⟨we, hwe⟩ : ∃ we, we = (d2.write n ((h * (n / 2) + ak : Nat) : Int) b).1 := ⟨_, rfl⟩
   obtain ⟨d3, hd3e⟩ : ∃ d3, d3 = (d2.write n ((h * (n / 2) + ak : Nat) : Int) b).2 := ⟨_, rfl⟩
   have hd3 : d3.ok n := by rw [hd3e]; exact write_ok hd2 _ _
   rw [← hwe, ← hd3e] at hws hw
   refine vwp_sq [0, 1, 2, 3, 10, 13, 14] fun K10 hK10 => vwp_region hT ?_
   simp [w4, hb]
   repeat refine ⟨by first | assumption | omega | (intros; omega), ?_⟩
   refine vcall_k [0, 1, 2, 3] (hws) ?_
   rintro r ob' ⟨rfl, rfl⟩
   simp [w4, hb]
   repeat refine ⟨by first | assumption | omega | (intros; omega), ?_⟩
   refine hK10 _ ?_
   try clear hK10 K10
   refine vwp_sq [0, 1, 2, 3, 11, 13, 14] fun K11 hK11 => vwp_region hT ?_
   simp
   refine hK11 _ ?_
   try clear hK11 K11
   refine vwp_cond (by first | rfl | (simp; rfl)) (fun h2 => ?_) fun h2 => ?_
   · simp -failIfUnchanged at h2; all_goals
    have he0 : ¬ we = 0 := by simpa using h2
    rw [if_neg he0] at hw
    refine vwp_sq [11] fun K12 hK12 => vwp_region hT ?_
    simp
    refine hK12 _ ?_
    try clear hK12 K12
    refine vwp_ret (hR _ _ ?_)
    rw [← hres, ← hw]
    exact ret_k [8] [0, 1, 2, 3] (lobs (g2.wrote we) d3 n) (.int .i64 we) (⟨rfl, rfl⟩)
   · simp -failIfUnchanged at h2; all_goals
    have he0 : we = 0 := by simpa using h2
    rw [if_pos he0] at hw
    subst he0
    obtain ⟨g3, hg3⟩ : ∃ g3, g3 = g2.wrote 0 := ⟨_, rfl⟩
    have hw3 : layK n h at_ ss (ss.length - (i + 1)) g3 d3 = res := by rw [hg3, ← hr]; exact hw
    try rw [← hg3]
    refine vwp_skip ?_
    refine hK7 _ ?_
    try clear hK7 K7
    have w1 : IntKind.i64.wrap ((i : Int) + 1) = i + 1 := w64 (by omega) (by omega)
    refine vwp_live [0, 1, 2, 3, 13, 14] (vwp_region hT ?_)
    simp [w1]
    exact hK4 ((i + 1, g3, d3)) _ (Gh.to_k [0, 1, 2, 3, 13, 14] [0, 1, 2, 3]) (⟨by dsimp only; omega, hd3, hw3⟩) (by dsimp only; omega)
  · simp -failIfUnchanged at h1; all_goals
   refine vwp_exit ?_
   simp only [inBlk, thenQ, if_true]
   refine hK2 _ ?_
   try clear hK2 K2
   refine vwp_sq [] fun K13 hK13 => vwp_region hT ?_
   simp
   refine hK13 _ ?_
   try clear hK13 K13
   refine vwp_ret (hR _ _ ?_)
   have e : ss.length - i = 0 := by omega
   rw [e, layK] at hw
   rw [← hres, ← hw]
   exact ret_k [8] [0, 1, 2, 3] (lobs g2 d2 n) (.int .i64 0) (⟨rfl, rfl⟩)

def beginOk (d : Dk) (n : Nat) : Bool := ((List.range (n / 2)).all fun a => a == 0 || blankB (d.sector a)) && ((d.sector 0).getD 31 0 == 0)
def beginL (g : Lg) (d : Dk) (n : Nat) : Int × Lg × Dk := if beginOk d n = true then ((d.write n 0 (headL 1)).1, g.wrote (d.write n 0 (headL 1)).1, (d.write n 0 (headL 1)).2) else (8, g, d)
theorem beginOk_no {d : Dk} {n a : Nat} (ha : a < n / 2) (h0 : a ≠ 0) (hb : blankB (d.sector a) = false) : beginOk d n = false := by
  unfold beginOk
  rw [Bool.and_eq_false_iff]
  left
  rw [List.all_eq_false]
  exact ⟨a, List.mem_range.2 ha, by simp [h0, hb]⟩
theorem begin_spec (g : Lg) (d : Dk) (n : Nat) (hd : d.ok n) : VC P 32 [.ptr 0 6 0] (lobs g d n) (fun r ob' => r = .int .i64 (beginL g d n).1 ∧ ob' = lobs (beginL g d n).2.1 (beginL g d n).2.2 n) := by
  refine VC_of_vwp_k ent_32 Try.func32 rfl (by simp) fun R hR => ?_
  refine vwp_sq [0] fun K1 hK1 => vwp_region hT ?_
  simp
  refine hK1 _ ?_
  try clear hK1 K1
  refine vwp_seq_k fun K2 hK2 => ?_
  have hn4 := hd.n4
  have hn2 := hd.n2
  obtain ⟨p, hp⟩ : ∃ p, p = n / 2 := ⟨_, rfl⟩
  have hps := per_spec g d n hn4
  rw [← hp] at hps
  refine vwp_sq [0] fun K3 hK3 => vwp_region hT ?_
  simp
  refine hK3 _ ?_
  try clear hK3 K3
  refine vwp_block ?_
  refine vwp_loop_s (fun i : Nat => ⟨[(0, .ptr 0 6 0), (3, .int .i64 ((i : Int) + 1))], lobs g d n⟩) (fun i => i + 1 ≤ p ∧ ∀ a, 0 < a → a < i + 1 → blankB (d.sector a) = true) (fun i => p - i) (0) (Gh.to_k [0, 3] [0, 1, 2, 3]) (⟨by omega, fun a h1 h2 => by omega⟩) ?_
  rintro i ⟨hi, hall⟩
  intro K4 hK4
  refine vwp_seq_k fun K5 hK5 => ?_
  refine vwp_sq [0, 3] fun K6 hK6 => vwp_region hT ?_
  simp
  refine vcall_k [0, 1, 2, 3] (hps) ?_
  rintro r ob' ⟨rfl, rfl⟩
  simp
  refine hK6 _ ?_
  try clear hK6 K6
  refine vwp_cond (by first | rfl | (simp; rfl)) (fun h1 => ?_) fun h1 => ?_
  · simp -failIfUnchanged at h1; all_goals
   refine vwp_skip ?_
   refine hK5 _ ?_
   try clear hK5 K5
   refine vwp_seq_k fun K7 hK7 => ?_
   refine vwp_block ?_
   have hrd := lread_spec g d n hd 0 (i + 1) (by omega)
   rw [Nat.zero_mul, Nat.zero_add] at hrd
   obtain ⟨s, hs⟩ : ∃ s, s = d.sector (i + 1) := ⟨_, rfl⟩
   have hsl : s.length = 32 := by rw [hs]; exact sector_len hd (by omega)
   rw [← hs] at hrd
   have hbs := blank_spec s (by omega)
   obtain ⟨i1, hi1⟩ : ∃ i1, i1 = i + 1 := ⟨_, rfl⟩
   rw [← hi1] at hrd
   have hii : (i : Int) + 1 = (i1 : Int) := by omega
   refine vwp_sq [0, 3] fun K8 hK8 => vwp_region hT ?_
   simp [hii]
   refine vcall_k [0, 1, 2, 3] (hrd) ?_
   rintro r ob' ⟨rfl, rfl⟩
   simp [hii]
   refine vcall_z [] (hbs) (by rintro r ob' ⟨rfl, rfl⟩; simp) ?_ (ha := by simp [hsl, List.take_of_length_le]) (hok := by simp [hsl])
   rintro r ob' ⟨rfl, rfl⟩
   simp [hii]
   refine hK8 _ ?_
   try clear hK8 K8
   refine vwp_cond (by first | rfl | (simp; rfl)) (fun h2 => ?_) fun h2 => ?_
   · simp -failIfUnchanged at h2; all_goals
    have hbl : blankB s = false := by simpa using h2
    refine vwp_sq [] fun K9 hK9 => vwp_region hT ?_
    simp
    refine hK9 _ ?_
    try clear hK9 K9
    refine vwp_ret (hR _ _ ?_)
    have hno := beginOk_no (d := d) (n := n) (a := i + 1) (by omega) (by omega) (by rw [← hs]; exact hbl)
    have e : beginL g d n = (8, g, d) := by rw [beginL, if_neg (by simp [hno])]
    rw [e]
    exact ret_k [2] [0, 1, 2, 3] (lobs g d n) (.int .i64 8) (⟨rfl, rfl⟩)
   · simp -failIfUnchanged at h2; all_goals
    have hbl : blankB s = true := by simpa using h2
    refine vwp_skip ?_
    refine hK7 _ ?_
    try clear hK7 K7
    have w1 : IntKind.i64.wrap ((i1 : Int) + 1) = (i : Int) + 1 + 1 := (w64 (by omega) (by omega)).trans (by omega)
    refine vwp_live [0, 3] (vwp_region hT ?_)
    simp [hii, w1]
    exact hK4 (i + 1) _ (Gh.to_k [0, 3] [0, 1, 2, 3] (he := by simp; omega)) (⟨by omega, fun a h1 h2 => by
      by_cases e : a = i + 1
      · subst e; rw [← hs]; exact hbl
      · exact hall a h1 (by omega)⟩) (by omega)
  · simp -failIfUnchanged at h1; all_goals
   refine vwp_exit ?_
   simp only [inBlk, thenQ, if_true]
   refine hK2 _ ?_
   try clear hK2 K2
   refine vwp_seq_k fun K10 hK10 => ?_
   have hrd := lread_spec g d n hd 0 (0) (by omega)
   rw [Nat.zero_mul, Nat.zero_add] at hrd
   obtain ⟨s, hs⟩ : ∃ s, s = d.sector (0) := ⟨_, rfl⟩
   have hsl : s.length = 32 := by rw [hs]; exact sector_len hd (by omega)
   rw [← hs] at hrd
   have hbs := blank_spec s (by omega)
   have hi2 : i + 1 = p := by omega
   obtain ⟨v, hv⟩ := getI (l := s) (i := 31) (by omega)
   have hvd : (d.sector 0).getD 31 0 = v := by rw [← hs, List.getD_eq_getElem?_getD, hv]; rfl
   refine vwp_sq [0] fun K11 hK11 => vwp_region hT ?_
   simp [hv]
   repeat refine ⟨by first | assumption | omega | (intros; omega), ?_⟩
   refine vcall_k [0, 1, 2, 3] (hrd) ?_
   rintro r ob' ⟨rfl, rfl⟩
   simp [hv]
   repeat refine ⟨by first | assumption | omega | (intros; omega), ?_⟩
   refine hK11 _ ?_
   try clear hK11 K11
   refine vwp_cond (by first | rfl | (simp; rfl)) (fun h3 => ?_) fun h3 => ?_
   · simp -failIfUnchanged at h3; all_goals
    have hv0 : ¬ v = 0 := by simpa using h3
    refine vwp_sq [] fun K12 hK12 => vwp_region hT ?_
    simp
    refine hK12 _ ?_
    try clear hK12 K12
    refine vwp_ret (hR _ _ ?_)
    have hno : beginOk d n = false := by unfold beginOk; rw [hvd]; simp [hv0]
    have e : beginL g d n = (8, g, d) := by rw [beginL, if_neg (by simp [hno])]
    rw [e]
    exact ret_k [2] [0, 1, 2, 3] (lobs g d n) (.int .i64 8) (⟨rfl, rfl⟩)
   · simp -failIfUnchanged at h3; all_goals
    have hv0 : v = 0 := by simpa using h3
    have hyes : beginOk d n = true := by
      unfold beginOk
      rw [hvd, hv0, Bool.and_eq_true, List.all_eq_true]
      refine ⟨fun a ha => ?_, rfl⟩
      have ha2 := List.mem_range.1 ha
      by_cases h0 : a = 0
      · simp [h0]
      · rw [hall a (by omega) (by omega)]; simp
    have e : beginL g d n = ((d.write n 0 (headL 1)).1, g.wrote (d.write n 0 (headL 1)).1, (d.write n 0 (headL 1)).2) := by rw [beginL, if_pos hyes]
    refine vwp_skip ?_
    refine hK10 _ ?_
    try clear hK10 K10
    have hhd := header_spec 1 (by decide)
    obtain ⟨HL, hHL⟩ : ∃ HL, HL = headL 1 := ⟨_, rfl⟩
    have hHl : HL.length = 32 := by rw [hHL]; exact headL_len 1
    have hws := lwrite_spec g d n hd 0 0 (by omega) (headL 1)
    rw [Nat.zero_mul, Nat.zero_add] at hws
    rw [← hHL] at hhd hws e
    obtain ⟨we, hwe⟩ : ∃ we, we = (d.write n 0 HL).1 := ⟨_, rfl⟩
    obtain ⟨d3, hd3e⟩ : ∃ d3, d3 = (d.write n 0 HL).2 := ⟨_, rfl⟩
    have hz : (((0 : Nat) : Int)) = 0 := rfl
    rw [hz, ← hwe, ← hd3e] at hws
    rw [← hwe, ← hd3e] at e
    refine vwp_sq [0] fun K13 hK13 => vwp_region hT ?_
    simp
    refine vcall_k [] (hhd) ?_
    rintro r ob' ⟨rfl, rfl⟩
    simp
    refine vcall_freeze 5 (by rfl) (by intro c hc; simp at hc; obtain ⟨z, _, rfl⟩ := hc; rfl) ?_
    refine vcall_k [0, 1, 2, 3] (hws) ?_ (ha := by simp [hHl, List.take_of_length_le]) (hok := by simp [hHl])
    rintro r ob' ⟨rfl, rfl⟩
    simp
    refine hK13 _ ?_
    try clear hK13 K13
    refine vwp_ret (hR _ _ ?_)
    rw [e]
    exact ret_k [2] [0, 1, 2, 3] (lobs (g.wrote we) d3 n) (.int .i64 we) (⟨rfl, rfl⟩)
end Go.Proofs.Ytifhbgppjblobaa
