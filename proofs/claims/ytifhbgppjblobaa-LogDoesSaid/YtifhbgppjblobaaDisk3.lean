/- The document's disk. -/
import Derived.Test.YtifhbgppjblobaaDisk0
namespace Go.Proofs.Ytifhbgppjblobaa
open Go Go.VX Go.RowKit
set_option linter.unusedVariables false
set_option linter.unusedSimpArgs false
set_option maxHeartbeats 1000000
set_option maxRecDepth 100000

theorem splI_next {l m : List Int} {o i : Nat} {c : Int} (h : o + m.length ≤ l.length) (hi : m[i]? = some c) : (splI l o (m.take i)).set (o + i) c = splI l o (m.take (i + 1)) := by
  have hlt : i < m.length := (List.getElem?_eq_some_iff.1 hi).1
  apply List.ext_getElem?
  intro j
  simp only [splI, List.getElem?_set]
  by_cases hj : o + i = j
  · subst hj
    simp only [if_true]
    rw [if_pos (by simp; omega)]
    rw [List.append_assoc, List.getElem?_append_right (by simp; omega), List.getElem?_append_left (by simp; omega)]
    simp [Nat.min_eq_left (show o ≤ l.length by omega), List.getElem?_take, hi]
  · rw [if_neg hj]
    simp only [List.getElem?_append, List.length_append, List.length_take, List.getElem?_take, List.getElem?_drop]
    have e1 : min o l.length = o := by omega
    have e2 : min i m.length = i := by omega
    have e3 : min (i + 1) m.length = i + 1 := by omega
    rw [e1, e2, e3]
    by_cases h1 : j < o + i
    · rw [if_pos h1, if_pos (show j < o + (i + 1) by omega)]
      by_cases h2 : j < o
      · rw [if_pos h2, if_pos h2, if_pos h2]
      · rw [if_neg h2, if_neg h2, if_pos (show j - o < i by omega), if_pos (show j - o < i + 1 by omega)]
    · rw [if_neg h1, if_neg (show ¬ j < o + (i + 1) by omega)]
      congr 1
      omega

theorem rfuse_spec (d : Dk) (a c : Int) :
    VC P 22 [.ptr 0 5 0, .int .i64 a, .int .i64 c] d.robs (fun r ob' => r = .tup [] ∧ ob' = (d.fused a c).robs) := by
  refine VC_of_vwp_k ent_22 Try.func22 rfl (by simp [Try.ntmps22]) fun R hR => ?_
  refine vwp_sq [0, 1, 2] fun K1 hK1 => vwp_region hT ?_
  simp [-List.reduceReplicate, Dk.robs, Try.ntmps22]
  repeat refine ⟨by first | assumption | omega | (intros; omega), ?_⟩
  refine hK1 _ ?_
  try clear hK1 K1
  refine vwp_live [0, 2] (vwp_region hT ?_)
  simp [-List.reduceReplicate, Dk.robs, Try.ntmps22]
  repeat refine ⟨by first | assumption | omega | (intros; omega), ?_⟩
  refine hR _ _ ?_
  refine ⟨_, Gh.refl _ _, ?_⟩
  simp [retQ, Try.f22, Dk.robs, Dk.fused]
  repeat' apply And.intro
  all_goals omega
theorem rcrash_spec (d : Dk) :
    VC P 27 [.ptr 0 5 0] d.robs (fun r ob' => r = .tup [] ∧ ob' = d.crashed.robs) := by
  refine VC_of_vwp_k ent_27 Try.func27 rfl (by simp [Try.ntmps27]) fun R hR => ?_
  refine vwp_sq [0] fun K1 hK1 => vwp_region hT ?_
  simp [-List.reduceReplicate, Dk.robs, Try.ntmps27]
  repeat refine ⟨by first | assumption | omega | (intros; omega), ?_⟩
  refine hK1 _ ?_
  try clear hK1 K1
  refine vwp_live [0] (vwp_region hT ?_)
  simp [-List.reduceReplicate, Dk.robs, Try.ntmps27]
  repeat refine ⟨by first | assumption | omega | (intros; omega), ?_⟩
  refine hR _ _ ?_
  refine ⟨_, Gh.refl _ _, ?_⟩
  simp [retQ, Try.f27, Dk.robs, Dk.crashed]
theorem rturn_spec (d : Dk) (at_ by_ : Int) :
    VC P 24 [.ptr 0 5 0, .int .i64 at_, .int .u8 by_] d.robs (fun r ob' => r = .int .i64 (d.turned at_ by_).1 ∧ ob' = (d.turned at_ by_).2.robs) := by
  refine VC_of_vwp_k ent_24 Try.func24 rfl (by simp [Try.ntmps24]) fun R hR => ?_
  refine vwp_sq [0, 1, 2] fun K1 hK1 => vwp_region hT ?_
  simp [-List.reduceReplicate, Dk.robs, Try.ntmps24]
  repeat refine ⟨by first | assumption | omega | (intros; omega), ?_⟩
  refine hK1 _ ?_
  try clear hK1 K1
  refine vwp_seq_k fun K2 hK2 => ?_
  refine vwp_sq [0, 1, 2] fun K3 hK3 => vwp_region hT ?_
  simp [-List.reduceReplicate, Dk.robs]
  repeat refine ⟨by first | assumption | omega | (intros; omega), ?_⟩
  refine hK3 _ ?_
  try clear hK3 K3
  refine vwp_cond (by first | rfl | (simp; rfl)) (fun h1 => ?_) fun h1 => ?_
  · simp -failIfUnchanged at h1; all_goals
   refine vwp_sq [] fun K4 hK4 => vwp_region hT ?_
   simp [-List.reduceReplicate, Dk.robs]
   repeat refine ⟨by first | assumption | omega | (intros; omega), ?_⟩
   refine hK4 _ ?_
   try clear hK4 K4
   refine vwp_ret ?_
   refine hR _ _ ?_
   have hw : d.turned at_ by_ = (5, d) := by
     unfold Dk.turned
     rw [if_neg (by omega)]
   rw [hw]
   refine ⟨_, Gh.refl _ _, ?_⟩
   simp [retQ, Try.f24, Dk.robs]
  · simp -failIfUnchanged at h1; all_goals
   refine vwp_skip ?_
   refine hK2 _ ?_
   try clear hK2 K2
   obtain ⟨v, q4⟩ : ∃ v, d.B[at_.toNat]? = some v := getI (by omega)
   refine vwp_sq [0, 1, 2] fun K5 hK5 => vwp_tail hT hm 15 (by kernel_rfl) ?_
   simp [-List.reduceReplicate, Dk.robs, q4]
   repeat refine ⟨by first | assumption | omega | (intros; omega), ?_⟩
   refine hK5 _ ?_
   try clear hK5 K5
   refine vwp_sq [] fun K6 hK6 => vwp_region hT ?_
   simp [-List.reduceReplicate, Dk.robs]
   repeat refine ⟨by first | assumption | omega | (intros; omega), ?_⟩
   refine hK6 _ ?_
   try clear hK6 K6
   refine vwp_ret ?_
   refine hR _ _ ?_
   have q5 : d.B.getD at_.toNat 0 = v := by simp [List.getD_eq_getElem?_getD, q4]
   have hw : d.turned at_ by_ = (0, { d with B := d.B.set at_.toNat (bxor v by_) }) := by
     unfold Dk.turned
     rw [if_pos (by omega), q5]
   rw [hw]
   refine ⟨_, Gh.refl _ _, ?_⟩
   simp [retQ, Try.f24, Dk.robs, bxor, spl]
theorem rnew_spec (s : Int) :
    VC P 20 [.int .i64 s] [] (fun r ob' => if 2 ≤ s ∧ s ≤ 4096 then r = .tup [.ptr 0 5 0, .int .i64 0] ∧ ob' = (Dk.new s.toNat).robs else r = .tup [.nilp, .int .i64 1] ∧ ob' = []) := by
  refine VC_of_vwp_k ent_20 Try.func20 rfl (by simp [Try.ntmps20]) fun R hR => ?_
  refine vwp_sq [0] fun K1 hK1 => vwp_region hT ?_
  simp [-List.reduceReplicate, Try.ntmps20]
  repeat refine ⟨by first | assumption | omega | (intros; omega), ?_⟩
  refine hK1 _ ?_
  try clear hK1 K1
  refine vwp_seq_k fun K2 hK2 => ?_
  refine vwp_sq [0] fun K3 hK3 => vwp_region hT ?_
  simp [-List.reduceReplicate]
  repeat refine ⟨by first | assumption | omega | (intros; omega), ?_⟩
  refine hK3 _ ?_
  try clear hK3 K3
  refine vwp_cond (by first | rfl | (simp; rfl)) (fun h1 => ?_) fun h1 => ?_
  · simp -failIfUnchanged at h1; all_goals
   refine vwp_sq [] fun K4 hK4 => vwp_region hT ?_
   simp [-List.reduceReplicate]
   repeat refine ⟨by first | assumption | omega | (intros; omega), ?_⟩
   refine hK4 _ ?_
   try clear hK4 K4
   refine vwp_ret ?_
   refine hR _ _ ?_
   have hc : ¬ (2 ≤ s ∧ s ≤ 4096) := by omega
   refine ⟨_, Gh.refl _ _, ?_⟩
   simp [retQ, Try.f20, hc]
  · simp -failIfUnchanged at h1; all_goals
   refine vwp_skip ?_
   refine hK2 _ ?_
   try clear hK2 K2
   have w1 : IntKind.i64.wrap (32 * s) = 32 * s := w64 (by omega) (by omega)
   have w2 : (32 * s).toNat = 32 * s.toNat := by omega
   refine vwp_sq [0] fun K5 hK5 => vwp_region hT ?_
   simp [-List.reduceReplicate, w1, w2]
   repeat refine ⟨by first | assumption | omega | (intros; omega), ?_⟩
   refine hK5 _ ?_
   try clear hK5 K5
   refine vwp_ret ?_
   refine hR _ _ ?_
   have hc : (2 ≤ s ∧ s ≤ 4096) := by omega
   refine ret_only [2, 3] [1, 0] ((Dk.new s.toNat).robs) (by simp) (by simp [-List.reduceReplicate, Dk.robs, Dk.new]) rfl (by simp) (r := .tup [.ptr 0 5 0, .int .i64 0]) (by simp [Try.f20, -List.reduceReplicate]) ?_
   simp [hc]
theorem rwrite_spec (d : Dk) (n : Nat) (hd : d.ok n) (at_ : Int) (b : List Int) :
    VC P 49 [.ptr 0 5 0, .int .i64 at_, .fs b.length (bts b)] d.robs (fun r ob' => r = .int .i64 (d.write n at_ b).1 ∧ ob' = (d.write n at_ b).2.robs) := by
  obtain ⟨hl, ht0, ht1, hf, hn2, hn4⟩ := hd
  have w1 : IntKind.i64.wrap ((d.B.length : Int) / 32) = n := (w64 (by omega) (by omega)).trans (by omega)
  refine VC_of_vwp_k ent_49 Try.func49 rfl (by simp [Try.ntmps49]) fun R hR => ?_
  refine vwp_sq [0, 1, 2] fun K1 hK1 => vwp_region hT ?_
  simp [-List.reduceReplicate, Dk.robs, w1, Try.ntmps49]
  repeat refine ⟨by first | assumption | omega | (intros; omega), ?_⟩
  refine hK1 _ ?_
  try clear hK1 K1
  refine vwp_seq_k fun K2 hK2 => ?_
  refine vwp_sq [0, 1, 2] fun K3 hK3 => vwp_region hT ?_
  simp [-List.reduceReplicate, Dk.robs, w1]
  repeat refine ⟨by first | assumption | omega | (intros; omega), ?_⟩
  refine hK3 _ ?_
  try clear hK3 K3
  refine vwp_cond (by first | rfl | (simp; rfl)) (fun h1 => ?_) fun h1 => ?_
  · simp -failIfUnchanged at h1; all_goals
   refine vwp_sq [] fun K4 hK4 => vwp_region hT ?_
   simp [-List.reduceReplicate, Dk.robs, w1]
   repeat refine ⟨by first | assumption | omega | (intros; omega), ?_⟩
   refine hK4 _ ?_
   try clear hK4 K4
   refine vwp_ret ?_
   refine hR _ _ ?_
   have hw : d.write n at_ b = (5, d) := by
     unfold Dk.write
     rw [if_neg (by omega)]
   rw [hw]
   refine ⟨_, Gh.refl _ _, ?_⟩
   simp [retQ, Try.f49, Dk.robs]
  · simp -failIfUnchanged at h1; all_goals
   refine vwp_skip ?_
   refine hK2 _ ?_
   try clear hK2 K2
   refine vwp_seq_k fun K5 hK5 => ?_
   refine vwp_sq [0, 1, 2] fun K6 hK6 => vwp_region hT ?_
   simp [-List.reduceReplicate, Dk.robs, w1]
   repeat refine ⟨by first | assumption | omega | (intros; omega), ?_⟩
   refine hK6 _ ?_
   try clear hK6 K6
   refine vwp_cond (by first | rfl | (simp; rfl)) (fun h2 => ?_) fun h2 => ?_
   · simp -failIfUnchanged at h2; all_goals
    refine vwp_sq [] fun K7 hK7 => vwp_region hT ?_
    simp [-List.reduceReplicate, Dk.robs, w1]
    repeat refine ⟨by first | assumption | omega | (intros; omega), ?_⟩
    refine hK7 _ ?_
    try clear hK7 K7
    refine vwp_ret ?_
    refine hR _ _ ?_
    have hw : d.write n at_ b = (1, d) := by
      unfold Dk.write
      rw [if_pos (by omega), if_pos (by omega)]
    rw [hw]
    refine ⟨_, Gh.refl _ _, ?_⟩
    simp [retQ, Try.f49, Dk.robs]
   · simp -failIfUnchanged at h2; all_goals
    refine vwp_skip ?_
    refine hK5 _ ?_
    try clear hK5 K5
    refine vwp_seq_k fun K8 hK8 => ?_
    refine vwp_sq [0, 1, 2] fun K9 hK9 => vwp_region hT ?_
    simp [-List.reduceReplicate, Dk.robs, w1]
    repeat refine ⟨by first | assumption | omega | (intros; omega), ?_⟩
    refine hK9 _ ?_
    try clear hK9 K9
    refine vwp_cond (by first | rfl | (simp; rfl)) (fun h3 => ?_) fun h3 => ?_
    · simp -failIfUnchanged at h3; all_goals
     refine vwp_sq [] fun K10 hK10 => vwp_region hT ?_
     simp [-List.reduceReplicate, Dk.robs, w1]
     repeat refine ⟨by first | assumption | omega | (intros; omega), ?_⟩
     refine hK10 _ ?_
     try clear hK10 K10
     refine vwp_ret ?_
     refine hR _ _ ?_
     have hw : d.write n at_ b = (7, d) := by
       unfold Dk.write
       rw [if_pos (by omega), if_neg (by omega), if_pos (by assumption)]
     rw [hw]
     refine ⟨_, Gh.refl _ _, ?_⟩
     simp [retQ, Try.f49, Dk.robs]
    · simp -failIfUnchanged at h3; all_goals
     refine vwp_skip ?_
     refine hK8 _ ?_
     try clear hK8 K8
     refine vwp_sq [0, 1, 2] fun K11 hK11 => vwp_region hT ?_
     simp [-List.reduceReplicate, Dk.robs, w1]
     repeat refine ⟨by first | assumption | omega | (intros; omega), ?_⟩
     refine hK11 _ ?_
     try clear hK11 K11
     refine vwp_sq [0, 1, 2, 7] fun K12 hK12 => vwp_region hT ?_
     simp [-List.reduceReplicate, Dk.robs, w1]
     repeat refine ⟨by first | assumption | omega | (intros; omega), ?_⟩
     refine hK12 _ ?_
     try clear hK12 K12
     refine vwp_cut_k (fun st => ∃ (many e : Int) (d1 : Dk), Gh ⟨Try.f49.ntmps, d.robs.length, false⟩ st ⟨[(0, .ptr 0 5 0), (1, .int .i64 at_), (2, .fs b.length (bts b)), (7, .int .i64 many), (8, .int .i64 e)], d1.robs⟩ ∧ ((d.fuse = 0 ∧ many = d.torn ∧ e = 7 ∧ d1 = { d with down := true }) ∨ (d.fuse ≠ 0 ∧ many = 32 ∧ e = 0 ∧ d1 = { d with writes := IntKind.i64.wrap (d.writes + 1) }))) (fun K13 hK13 => ?_) ?_
     · refine vwp_sq [0, 1, 2, 7, 8] fun K14 hK14 => vwp_region hT ?_
       simp [-List.reduceReplicate, Dk.robs, w1]
       repeat refine ⟨by first | assumption | omega | (intros; omega), ?_⟩
       refine hK14 _ ?_
       try clear hK14 K14
       refine vwp_cond (by first | rfl | (simp; rfl)) (fun h4 => ?_) fun h4 => ?_
       · simp -failIfUnchanged at h4; all_goals
        refine vwp_sq [0, 1, 2] fun K15 hK15 => vwp_region hT ?_
        simp [-List.reduceReplicate, Dk.robs, w1]
        repeat refine ⟨by first | assumption | omega | (intros; omega), ?_⟩
        refine hK15 _ ?_
        try clear hK15 K15
        refine vwp_sq [0, 1, 2, 7] fun K16 hK16 => vwp_region hT ?_
        simp [-List.reduceReplicate, Dk.robs, w1]
        repeat refine ⟨by first | assumption | omega | (intros; omega), ?_⟩
        refine hK16 _ ?_
        try clear hK16 K16
        refine vwp_live [0, 1, 2, 7] (vwp_region hT ?_)
        simp [-List.reduceReplicate, Dk.robs, w1]
        repeat refine ⟨by first | assumption | omega | (intros; omega), ?_⟩
        refine hK13 _ ?_
        first
        | (refine ⟨d.torn, 7, { d with down := true }, Gh.to [0, 1, 2, 7, 8] [0, 1] [(0, .ptr 0 5 0), (1, .int .i64 at_), (2, .fs b.length (bts b)), (7, .int .i64 d.torn), (8, .int .i64 7)] (Dk.robs { d with down := true }) (by simp) (by simp [Dk.robs]) rfl (by simp) (by simp), ?_⟩; simp [*]; done)
        | (refine ⟨32, 0, { d with writes := IntKind.i64.wrap (d.writes + 1) }, Gh.to [0, 1, 2, 7, 8] [0, 1] [(0, .ptr 0 5 0), (1, .int .i64 at_), (2, .fs b.length (bts b)), (7, .int .i64 32), (8, .int .i64 0)] (Dk.robs { d with writes := IntKind.i64.wrap (d.writes + 1) }) (by simp) (by simp [Dk.robs]) rfl (by simp) (by simp), ?_⟩; simp [*]; done)
       · simp -failIfUnchanged at h4; all_goals
        refine vwp_live [0, 1, 2, 7, 8] (vwp_region hT ?_)
        simp [-List.reduceReplicate, Dk.robs, w1]
        repeat refine ⟨by first | assumption | omega | (intros; omega), ?_⟩
        refine hK13 _ ?_
        first
        | (refine ⟨d.torn, 7, { d with down := true }, Gh.to [0, 1, 2, 7, 8] [0, 1] [(0, .ptr 0 5 0), (1, .int .i64 at_), (2, .fs b.length (bts b)), (7, .int .i64 d.torn), (8, .int .i64 7)] (Dk.robs { d with down := true }) (by simp) (by simp [Dk.robs]) rfl (by simp) (by simp), ?_⟩; simp [*]; done)
        | (refine ⟨32, 0, { d with writes := IntKind.i64.wrap (d.writes + 1) }, Gh.to [0, 1, 2, 7, 8] [0, 1] [(0, .ptr 0 5 0), (1, .int .i64 at_), (2, .fs b.length (bts b)), (7, .int .i64 32), (8, .int .i64 0)] (Dk.robs { d with writes := IntKind.i64.wrap (d.writes + 1) }) (by simp) (by simp [Dk.robs]) rfl (by simp) (by simp), ?_⟩; simp [*]; done)
     · rintro st ⟨many, e, d1, hg, hc⟩
       refine vwp_gh hg ?_
       refine vwp_cut_k (fun st => ∃ (d2 : Dk), Gh ⟨Try.f49.ntmps, d.robs.length, false⟩ st ⟨[(0, .ptr 0 5 0), (1, .int .i64 at_), (2, .fs b.length (bts b)), (7, .int .i64 many), (8, .int .i64 e)], d2.robs⟩ ∧ d2.B = d.B ∧ 0 ≤ many ∧ many ≤ 32 ∧ ∀ l, l = splI d.B (at_.toNat * 32) ((pad b).take many.toNat) → d.write n at_ b = (e, { d2 with B := l })) (fun K17 hK17 => ?_) ?_
       · refine vwp_sq [0, 1, 2, 7, 8] fun K18 hK18 => vwp_region hT ?_
         simp [-List.reduceReplicate, Dk.robs, w1, Dk.robs]
         repeat refine ⟨by first | assumption | omega | (intros; omega), ?_⟩
         refine hK18 _ ?_
         try clear hK18 K18
         refine vwp_cond (by first | rfl | (simp; rfl)) (fun h5 => ?_) fun h5 => ?_
         · simp -failIfUnchanged at h5; all_goals
          refine vwp_live [0, 1, 2, 7, 8] (vwp_region hT ?_)
          simp [-List.reduceReplicate, Dk.robs, w1]
          repeat refine ⟨by first | assumption | omega | (intros; omega), ?_⟩
          refine hK17 _ ?_
          rcases hc with ⟨c1, _, _, rfl⟩ | ⟨c1, rfl, rfl, rfl⟩
          · exfalso
            dsimp only at h5
            omega
          · refine ⟨{ d with writes := IntKind.i64.wrap (d.writes + 1), fuse := IntKind.i64.wrap (d.fuse - 1) }, Gh.to [0, 1, 2, 7, 8] [0, 1] [(0, .ptr 0 5 0), (1, .int .i64 at_), (2, .fs b.length (bts b)), (7, .int .i64 32), (8, .int .i64 0)] (Dk.robs { d with writes := IntKind.i64.wrap (d.writes + 1), fuse := IntKind.i64.wrap (d.fuse - 1) }) (by simp) (by simp [Dk.robs]) rfl (by simp) (by simp), rfl, by omega, by omega, fun l hl2 => ?_⟩
            subst hl2
            have hpl := pad_length (b := b) (by omega)
            dsimp only at h5
            unfold Dk.write
            rw [if_pos (by omega), if_neg (by omega), if_neg (by simp [*]), if_neg (by omega), if_neg (by omega), List.take_of_length_le (by simp; omega)]
         · simp -failIfUnchanged at h5; all_goals
          refine vwp_skip ?_
          refine hK17 _ ?_
          rcases hc with ⟨c1, rfl, rfl, rfl⟩ | ⟨c1, rfl, rfl, rfl⟩
          · refine ⟨{ d with down := true }, Gh.to [0, 1, 2, 7, 8] [0, 1] [(0, .ptr 0 5 0), (1, .int .i64 at_), (2, .fs b.length (bts b)), (7, .int .i64 d.torn), (8, .int .i64 7)] (Dk.robs { d with down := true }) (by simp) (by simp [Dk.robs]) rfl (by simp) (by simp), rfl, ht0, ht1, fun l hl2 => ?_⟩
            subst hl2
            unfold Dk.write
            rw [if_pos (by omega), if_neg (by omega), if_neg (by simp [*]), if_pos c1]
          · dsimp only at h5
            refine ⟨{ d with writes := IntKind.i64.wrap (d.writes + 1) }, Gh.to [0, 1, 2, 7, 8] [0, 1] [(0, .ptr 0 5 0), (1, .int .i64 at_), (2, .fs b.length (bts b)), (7, .int .i64 32), (8, .int .i64 0)] (Dk.robs { d with writes := IntKind.i64.wrap (d.writes + 1) }) (by simp) (by simp [Dk.robs]) rfl (by simp) (by simp), rfl, by omega, by omega, fun l hl2 => ?_⟩
            subst hl2
            have hpl := pad_length (b := b) (by omega)
            unfold Dk.write
            rw [if_pos (by omega), if_neg (by omega), if_neg (by simp [*]), if_neg (by omega), if_pos (by omega), List.take_of_length_le (by simp; omega)]
            have : d.fuse = -1 := by omega
            rw [this]
       · rintro st ⟨d2, hg, hB, hm0, hm1, hfin⟩
         refine vwp_gh hg ?_
         refine vwp_seq_k fun K19 hK19 => ?_
         refine vwp_sq [0, 1, 2, 7, 8] fun K20 hK20 => vwp_region hT ?_
         simp [-List.reduceReplicate, Dk.robs, w1]
         repeat refine ⟨by first | assumption | omega | (intros; omega), ?_⟩
         refine hK20 _ ?_
         try clear hK20 K20
         refine vwp_block ?_
         refine vwp_gh (Gh.to [0, 1, 2, 7, 8, 9] [0, 1] [(0, .ptr 0 5 0), (1, .int .i64 at_), (2, .fs b.length (bts b)), (7, .int .i64 many), (8, .int .i64 e), (9, .int .i64 0)] (Dk.robs { d2 with B := splI d.B (at_.toNat * 32) ((pad b).take (0)) }) (by simp) (by simp [Dk.robs, hB, splI]) rfl (by simp) (by simp)) ?_
         refine vwp_loop_k (fun m st => ∃ i : Nat, i ≤ many ∧ m = many.toNat - i ∧ st = ⟨[(0, .ptr 0 5 0), (1, .int .i64 at_), (2, .fs b.length (bts b)), (7, .int .i64 many), (8, .int .i64 e), (9, .int .i64 i)], Dk.robs { d2 with B := splI d.B (at_.toNat * 32) ((pad b).take (i)) }⟩) many.toNat ⟨0, by simpa using hm0, by simp, rfl⟩ ?_
         rintro m st ⟨i, hi, rfl, rfl⟩
         intro K21 hK21
         refine vwp_seq_k fun K22 hK22 => ?_
         refine vwp_sq [0, 1, 2, 7, 8, 9] fun K23 hK23 => vwp_region hT ?_
         simp [-List.reduceReplicate, Dk.robs, w1]
         repeat refine ⟨by first | assumption | omega | (intros; omega), ?_⟩
         refine hK23 _ ?_
         try clear hK23 K23
         refine vwp_cond (by first | rfl | (simp; rfl)) (fun h6 => ?_) fun h6 => ?_
         · simp -failIfUnchanged at h6; all_goals
          refine vwp_skip ?_
          refine hK22 _ ?_
          try clear hK22 K22
          refine vwp_seq_k fun K24 hK24 => ?_
          refine vwp_block ?_
          refine vwp_sq [0, 1, 2, 7, 8, 9] fun K25 hK25 => vwp_region hT ?_
          simp [-List.reduceReplicate, Dk.robs, w1]
          repeat refine ⟨by first | assumption | omega | (intros; omega), ?_⟩
          refine hK25 _ ?_
          try clear hK25 K25
          refine vwp_cut_k (fun st => ∃ c : Int, (pad b)[i]? = some c ∧ Gh ⟨Try.f49.ntmps, d.robs.length, false⟩ st ⟨[(0, .ptr 0 5 0), (1, .int .i64 at_), (2, .fs b.length (bts b)), (7, .int .i64 many), (8, .int .i64 e), (9, .int .i64 i), (10, .int .u8 c)], Dk.robs { d2 with B := splI d.B (at_.toNat * 32) ((pad b).take (i)) }⟩) (fun K26 hK26 => ?_) ?_
          · refine vwp_sq [0, 1, 2, 7, 8, 9, 10] fun K27 hK27 => vwp_region hT ?_
            simp [-List.reduceReplicate, Dk.robs, w1]
            repeat refine ⟨by first | assumption | omega | (intros; omega), ?_⟩
            refine hK27 _ ?_
            try clear hK27 K27
            refine vwp_cond (by first | rfl | (simp; rfl)) (fun h7 => ?_) fun h7 => ?_
            · simp -failIfUnchanged at h7; all_goals
             obtain ⟨x, hx⟩ : ∃ x, b[i]? = some x := getI (by omega)
             refine vwp_live [0, 1, 2, 7, 8, 9] (vwp_region hT ?_)
             simp [-List.reduceReplicate, Dk.robs, w1, hx]
             repeat refine ⟨by first | assumption | omega | (intros; omega), ?_⟩
             refine hK26 _ ?_
             refine ⟨x, ?_, Gh.to [0, 1, 2, 7, 8, 9, 10] [0, 1] [(0, .ptr 0 5 0), (1, .int .i64 at_), (2, .fs b.length (bts b)), (7, .int .i64 many), (8, .int .i64 e), (9, .int .i64 i), (10, .int .u8 x)] (Dk.robs { d2 with B := splI d.B (at_.toNat * 32) ((pad b).take (i)) }) (by simp) (by simp [Dk.robs]) rfl (by simp) (by simp)⟩
             rw [pad, List.getElem?_append_left (by omega), hx]
            · simp -failIfUnchanged at h7; all_goals
             refine vwp_skip ?_
             refine hK26 _ ?_
             refine ⟨0, ?_, Gh.to [0, 1, 2, 7, 8, 9, 10] [0, 1] [(0, .ptr 0 5 0), (1, .int .i64 at_), (2, .fs b.length (bts b)), (7, .int .i64 many), (8, .int .i64 e), (9, .int .i64 i), (10, .int .u8 0)] (Dk.robs { d2 with B := splI d.B (at_.toNat * 32) ((pad b).take (i)) }) (by simp) (by simp [Dk.robs]) rfl (by simp) (by simp)⟩
             rw [pad, List.getElem?_append_right (by omega), List.getElem?_replicate, if_pos (by omega)]
          · rintro st ⟨c, hc2, hg2⟩
            refine vwp_gh hg2 ?_
            have hpl := pad_length (b := b) (by omega)
            have hLn : (splI d.B (at_.toNat * 32) (List.take i (pad b))).length = 32 * n := by rw [splI_length (by simp [hpl]; omega), hl]
            have hLn1 : (splI d.B (at_.toNat * 32) (List.take (i + 1) (pad b))).length = 32 * n := by rw [splI_length (by simp [hpl]; omega), hl]
            have w2 : IntKind.i64.wrap (32 * at_) = 32 * at_ := w64 (by omega) (by omega)
            have w3 : IntKind.i64.wrap (32 * at_ + i) = 32 * at_ + i := w64 (by omega) (by omega)
            have w4 : (32 * at_ + (i : Int)).toNat = at_.toNat * 32 + i := by omega
            have e3 : spl (bts (splI d.B (at_.toNat * 32) (List.take i (pad b)))) (at_.toNat * 32 + i) [V.int .u8 c] = bts (splI d.B (at_.toNat * 32) (List.take (i + 1) (pad b))) := by
              rw [← splI_next (by omega) hc2]
              simp [spl, List.map_set]
            refine vwp_live [0, 1, 2, 7, 8, 9, 10] (vwp_region hT ?_)
            simp [-List.reduceReplicate, Dk.robs, w1, w2, w3, w4, e3, hLn]
            repeat refine ⟨by first | assumption | omega | (intros; omega), ?_⟩
            refine hK24 _ ?_
            try clear hK24 K24
            refine vwp_live [0, 1, 2, 7, 8, 9] (vwp_region hT ?_)
            simp [-List.reduceReplicate, Dk.robs, w1]
            repeat refine ⟨by first | assumption | omega | (intros; omega), ?_⟩
            refine hK21 _ ?_
            refine ⟨_, Gh.to [0, 1, 2, 7, 8, 9] [0, 1] [(0, .ptr 0 5 0), (1, .int .i64 at_), (2, .fs b.length (bts b)), (7, .int .i64 many), (8, .int .i64 e), (9, .int .i64 ((i + 1 : Nat) : Int))] (Dk.robs { d2 with B := splI d.B (at_.toNat * 32) ((pad b).take (i + 1)) }) (by simp) (by simp [Dk.robs, hLn, hLn1]) rfl (by simp) (by simp; exact w64 (by omega) (by omega)), many.toNat - (i + 1), by omega, i + 1, by omega, rfl, rfl⟩
         · simp -failIfUnchanged at h6; all_goals
          refine vwp_exit ?_
          simp only [inBlk, thenQ, if_true]
          refine hK19 _ ?_
          try clear hK19 K19
          refine vwp_sq [8] fun K28 hK28 => vwp_region hT ?_
          simp [-List.reduceReplicate, Dk.robs, w1]
          repeat refine ⟨by first | assumption | omega | (intros; omega), ?_⟩
          refine hK28 _ ?_
          try clear hK28 K28
          refine vwp_ret ?_
          refine hR _ _ ?_
          obtain rfl : i = many.toNat := by omega
          rw [hfin _ rfl]
          refine ⟨_, Gh.refl _ _, ?_⟩
          simp [retQ, Try.f49, Dk.robs]
end Go.Proofs.Ytifhbgppjblobaa
