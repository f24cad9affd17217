/- Views compared and counted: the walk. -/
import Derived.Test.YtmpakfpmmkfgpaaLbK
namespace Go.Proofs.Ytmpakfpmmkfgpaa
open Go Go.VX Go.RowKit
set_option linter.unusedVariables false
set_option linter.unusedSimpArgs false
set_option maxHeartbeats 20000000
set_option maxRecDepth 100000

theorem rwx_ne {a b : Rwx} : (a.oi = b.oi ∧ a.al = b.al ∧ a.pl = b.pl ∧ a.et = b.et) ↔ a = b := by
  cases a; cases b; simp
theorem equalr_spec (a b : List Rwx) (ha : a.length < 9223372036854775807) (hb : b.length < 9223372036854775807) : VC P 29 [fsV a, fsV b] [] (fun r ob' => r = .bool (decide (a = b)) ∧ ob' = []) := by
  refine VC_of_vwp_k ent_29 Try.func29 rfl (by simp) fun R hR => ?_
  refine vwp_sq [0, 1] fun K1 hK1 => vwp_region hT ?_
  simp
  refine hK1 _ ?_
  try clear hK1 K1
  refine vwp_seq_k fun K2 hK2 => ?_
  refine vwp_sq [0, 1] fun K3 hK3 => vwp_region hT ?_
  simp
  refine hK3 _ ?_
  try clear hK3 K3
  refine vwp_cond (by first | rfl | (simp; rfl)) (fun h1 => ?_) fun h1 => ?_
  · simp -failIfUnchanged at h1; all_goals
   refine vwp_sq [] fun K4 hK4 => vwp_region hT ?_
   simp
   refine hK4 _ ?_
   try clear hK4 K4
   refine vwp_ret (hR _ _ ?_)
   exact ret_k [4] [] ([]) (.bool (decide (a = b))) (⟨rfl, rfl⟩) (hr := by simp; intro e; subst e; omega)
  · simp -failIfUnchanged at h1; all_goals
   refine vwp_skip ?_
   refine hK2 _ ?_
   try clear hK2 K2
   refine vwp_seq_k fun K5 hK5 => ?_
   refine vwp_sq [0, 1] fun K6 hK6 => vwp_region hT ?_
   simp
   refine hK6 _ ?_
   try clear hK6 K6
   refine vwp_block ?_
   refine vwp_loop_s (fun i : Nat => ⟨[(0, fsV a), (1, fsV b), (12, .int .i64 a.length), (13, .int .i64 (i : Int))], []⟩) (fun i => i ≤ a.length ∧ a.take i = b.take i) (fun i => a.length - i) (0) (Gh.to_k [0, 1, 12, 13] []) (⟨by omega, by simp⟩) ?_
   rintro i ⟨hi, hab⟩
   intro K7 hK7
   refine vwp_sq [0, 1, 12, 13] fun K8 hK8 => vwp_region hT ?_
   simp
   refine hK8 _ ?_
   try clear hK8 K8
   refine vwp_seq_k fun K9 hK9 => ?_
   refine vwp_cond (by first | rfl | (simp; rfl)) (fun h2 => ?_) fun h2 => ?_
   · simp -failIfUnchanged at h2; all_goals
    refine vwp_skip ?_
    refine hK9 _ ?_
    try clear hK9 K9
    refine vwp_seq_k fun K10 hK10 => ?_
    refine vwp_block ?_
    refine vwp_sq [0, 1, 12, 13] fun K11 hK11 => vwp_region hT ?_
    simp
    refine hK11 _ ?_
    try clear hK11 K11
    obtain ⟨x, hx⟩ := getI (l := a) (i := i) (by omega)
    obtain ⟨y, hy⟩ := getI (l := b) (i := i) (by omega)
    have hrx := rowRwx hx
    have hry := rowRwx hy
    have hlx := lenRwx a
    have hly := lenRwx b
    refine vwp_sq [0, 1, 5, 12, 13] fun K12 hK12 => vwp_still hT hm (by kernel_rfl) ?_
    simp [hrx, hry, hlx, hly]
    repeat refine ⟨by first | assumption | omega | (intros; omega), ?_⟩
    refine hK12 _ ?_
    try clear hK12 K12
    refine vwp_cond (by first | rfl | (simp; rfl)) (fun h3 => ?_) fun h3 => ?_
    · simp -failIfUnchanged at h3; all_goals
     have q := h3
     have hxn : ¬ x = y := by rintro rfl; simp at q
     refine vwp_sq [] fun K13 hK13 => vwp_region hT ?_
     simp
     refine hK13 _ ?_
     try clear hK13 K13
     refine vwp_ret (hR _ _ ?_)
     exact ret_k [4] [] ([]) (.bool (decide (a = b))) (⟨rfl, rfl⟩) (hr := by
       simp
       intro e; subst e
       rw [hx] at hy
       exact hxn (Option.some.inj hy))
    · simp -failIfUnchanged at h3; all_goals
     have q := h3
     have hxy : x = y := by
       simp -failIfUnchanged at q
       exact rwx_ne.1 ⟨q.1, q.2.1, q.2.2.1, q.2.2.2⟩
     refine vwp_skip ?_
     refine hK10 _ ?_
     try clear hK10 K10
     have w1 : IntKind.i64.wrap ((i : Int) + 1) = i + 1 := w64 (by omega) (by omega)
     refine vwp_live [0, 1, 12, 13] (vwp_region hT ?_)
     simp [w1]
     exact hK7 (i + 1) _ (Gh.to_k [0, 1, 12, 13] []) (⟨by omega, by rw [List.take_add_one, List.take_add_one, hab, hx, hy, hxy]⟩) (by omega)
   · simp -failIfUnchanged at h2; all_goals
    refine vwp_exit ?_
    simp only [inBlk, thenQ, if_true]
    refine hK5 _ ?_
    try clear hK5 K5
    refine vwp_sq [] fun K14 hK14 => vwp_region hT ?_
    simp
    refine hK14 _ ?_
    try clear hK14 K14
    refine vwp_ret (hR _ _ ?_)
    exact ret_k [4] [] ([]) (.bool (decide (a = b))) (⟨rfl, rfl⟩) (hr := by
      rw [List.take_of_length_le (by omega), List.take_of_length_le (by omega)] at hab
      simp [hab])

theorem vw_eq {a b : Vw} : a = b ↔ (a.am = b.am ∧ a.ru = b.ru ∧ a.fe = b.fe) ∧ a.rs = b.rs ∧ a.fs = b.fs ∧ a.gs = b.gs := by
  cases a; cases b; simp only [Vw.mk.injEq]
  constructor
  · rintro ⟨h1, h2, h3, h4, h5, h6⟩; exact ⟨⟨h3, h4, h5⟩, h1, h2, h6⟩
  · rintro ⟨⟨h3, h4, h5⟩, h1, h2, h6⟩; exact ⟨h1, h2, h3, h4, h5, h6⟩
theorem lsame_spec (a b : Vw) (h1 : a.rs.length < 1099511627776 ∧ a.fs.length < 1099511627776 ∧ a.gs.length < 1099511627776) (h2 : b.rs.length < 1099511627776 ∧ b.fs.length < 1099511627776 ∧ b.gs.length < 1099511627776) : VC P 13 [.agg a.cells, .agg b.cells] [] (fun r ob' => r = .bool (decide (a = b)) ∧ ob' = []) := by
  refine VC_of_vwp_k ent_13 Try.func13 rfl (by simp) fun R hR => ?_
  refine vwp_sq [0, 1] fun K1 hK1 => vwp_region hT ?_
  simp
  refine hK1 _ ?_
  try clear hK1 K1
  refine vwp_seq_k fun K2 hK2 => ?_
  by_cases hb : a.am = b.am ∧ a.ru = b.ru ∧ a.fe = b.fe
  · have hbp : (a.am = b.am ∧ a.ru = b.ru ∧ a.fe = b.fe) = True := eq_true hb
    have hbb : (a.am == b.am && (a.ru == b.ru && a.fe == b.fe)) = true := by simpa using hb
    by_cases hr : a.rs = b.rs
    · have hrd : decide (a.rs = b.rs) = true := by simpa using hr
      have hrp : (a.rs = b.rs) = True := eq_true hr
      by_cases hf : a.fs = b.fs
      · have hfd : decide (a.fs = b.fs) = true := by simpa using hf
        have hfp : (a.fs = b.fs) = True := eq_true hf
        have hD : decide (a = b) = decide (a.gs = b.gs) := by rw [decide_eq_decide, vw_eq]; exact ⟨fun h => h.2.2.2, fun h => ⟨hb, hr, hf, h⟩⟩
        refine vwp_live [2, 3] (vwp_region hT ?_)
        simp [hbp, hbb, hrp, hrd, hfp, hfd]
        refine vcall_z [] (equalr_spec a.rs b.rs (by omega) (by omega)) (by rintro r ob' ⟨rfl, rfl⟩; simp) ?_
        rintro r ob' ⟨rfl, rfl⟩
        simp [hbp, hbb, hrp, hrd, hfp, hfd]
        refine vcall_z [] (equal_spec a.fs b.fs (by omega) (by omega)) (by rintro r ob' ⟨rfl, rfl⟩; simp) ?_
        rintro r ob' ⟨rfl, rfl⟩
        simp [hbp, hbb, hrp, hrd, hfp, hfd]
        refine vcall_z [] (equall_spec a.gs b.gs (by omega) (by omega)) (by rintro r ob' ⟨rfl, rfl⟩; simp) ?_
        rintro r ob' ⟨rfl, rfl⟩
        simp [hbp, hbb, hrp, hrd, hfp, hfd]
        refine hK2 _ ?_
        try clear hK2 K2
        refine vwp_ret (hR _ _ ?_)
        rw [hD]
        exact ret_k [4] [] ([]) (.bool (decide (a.gs = b.gs))) (⟨rfl, rfl⟩)
      · have hfd : decide (a.fs = b.fs) = false := by simpa using hf
        refine vwp_live [2, 3] (vwp_region hT ?_)
        simp [hbp, hbb, hrp, hrd, hf, hfd]
        refine vcall_z [] (equalr_spec a.rs b.rs (by omega) (by omega)) (by rintro r ob' ⟨rfl, rfl⟩; simp) ?_
        rintro r ob' ⟨rfl, rfl⟩
        simp [hbp, hbb, hrp, hrd, hf, hfd]
        refine vcall_z [] (equal_spec a.fs b.fs (by omega) (by omega)) (by rintro r ob' ⟨rfl, rfl⟩; simp) ?_
        rintro r ob' ⟨rfl, rfl⟩
        simp [hbp, hbb, hrp, hrd, hf, hfd]
        refine hK2 _ ?_
        try clear hK2 K2
        refine vwp_ret (hR _ _ ?_)
        have hD : decide (a = b) = false := by rw [decide_eq_false_iff_not, vw_eq]; rintro ⟨h1, h2, h3, h4⟩; contradiction
        rw [hD]
        exact ret_k [4] [] ([]) (.bool false) (⟨rfl, rfl⟩)
    · have hrd : decide (a.rs = b.rs) = false := by simpa using hr
      refine vwp_live [2, 3] (vwp_region hT ?_)
      simp [hbp, hbb, hr, hrd]
      refine vcall_z [] (equalr_spec a.rs b.rs (by omega) (by omega)) (by rintro r ob' ⟨rfl, rfl⟩; simp) ?_
      rintro r ob' ⟨rfl, rfl⟩
      simp [hbp, hbb, hr, hrd]
      refine hK2 _ ?_
      try clear hK2 K2
      refine vwp_ret (hR _ _ ?_)
      have hD : decide (a = b) = false := by rw [decide_eq_false_iff_not, vw_eq]; rintro ⟨h1, h2, h3, h4⟩; contradiction
      rw [hD]
      exact ret_k [4] [] ([]) (.bool false) (⟨rfl, rfl⟩)
  · have hbb : (a.am == b.am && (a.ru == b.ru && a.fe == b.fe)) = false := by rw [← Bool.not_eq_true]; simpa using hb
    refine vwp_live [2, 3] (vwp_region hT ?_)
    simp [hb, hbb]
    refine hK2 _ ?_
    try clear hK2 K2
    refine vwp_ret (hR _ _ ?_)
    have hD : decide (a = b) = false := by rw [decide_eq_false_iff_not, vw_eq]; rintro ⟨h1, h2, h3, h4⟩; contradiction
    rw [hD]
    exact ret_k [4] [] ([]) (.bool false) (⟨rfl, rfl⟩)
theorem dsame_spec (a b : Vw) (h1 : a.rs.length < 1099511627776 ∧ a.fs.length < 1099511627776 ∧ a.gs.length < 1099511627776) (h2 : b.rs.length < 1099511627776 ∧ b.fs.length < 1099511627776 ∧ b.gs.length < 1099511627776) : VC P 14 [.agg a.cells, .agg b.cells] [] (fun r ob' => r = .bool (decide (a = b)) ∧ ob' = []) := by
  refine VC_of_vwp_k ent_14 Try.func14 rfl (by simp) fun R hR => ?_
  refine vwp_sq [0, 1] fun K1 hK1 => vwp_region hT ?_
  simp
  refine hK1 _ ?_
  try clear hK1 K1
  refine vwp_seq_k fun K2 hK2 => ?_
  refine vwp_seq_k fun K3 hK3 => ?_
  by_cases ha : a.am = b.am
  · have hap : (a.am = b.am) = True := eq_true ha
    have had : (a.am != b.am) = false := by simpa using ha
    by_cases hru : a.ru = b.ru
    · have hrup : (a.ru = b.ru) = True := eq_true hru
      have hrud : (a.ru != b.ru) = false := by simpa using hru
      by_cases hfe : a.fe = b.fe
      · have hfep : (a.fe = b.fe) = True := eq_true hfe
        have hfed : (a.fe != b.fe) = false := by simpa using hfe
        by_cases hrl : a.rs.length = b.rs.length
        · have hrlp : ((a.rs.length : Int) = b.rs.length) = True := eq_true (by omega)
          have hrld : ((a.rs.length : Int) != b.rs.length) = false := by rw [bne_eq_false_iff_eq]; omega
          by_cases hf : a.fs = b.fs
          · have hfp : (a.fs = b.fs) = True := eq_true hf
            have hfd : decide (a.fs = b.fs) = true := by simpa using hf
            by_cases hg : a.gs = b.gs
            · have hgp : (a.gs = b.gs) = True := eq_true hg
              have hgd : decide (a.gs = b.gs) = true := by simpa using hg
              have hD : decide (a = b) = decide (a.rs = b.rs) := by rw [decide_eq_decide, vw_eq]; exact ⟨fun h => h.2.1, fun h => ⟨⟨ha, hru, hfe⟩, h, hf, hg⟩⟩
              refine vwp_live [2, 3] (vwp_region hT ?_)
              simp [hap, had, hrup, hrud, hfep, hfed, hrlp, hrld, hfp, hfd, hgp, hgd]
              refine vcall_z [] (same_spec a.fs b.fs (by omega) (by omega)) (by rintro r ob' ⟨rfl, rfl⟩; simp) ?_
              rintro r ob' ⟨rfl, rfl⟩
              simp [hap, had, hrup, hrud, hfep, hfed, hrlp, hrld, hfp, hfd, hgp, hgd]
              refine vcall_z [] (ints_spec a.gs b.gs (by omega) (by omega)) (by rintro r ob' ⟨rfl, rfl⟩; simp) ?_
              rintro r ob' ⟨rfl, rfl⟩
              simp [hap, had, hrup, hrud, hfep, hfed, hrlp, hrld, hfp, hfd, hgp, hgd]
              refine hK3 _ ?_
              try clear hK3 K3
              refine vwp_cond (by first | rfl | (simp; rfl)) (fun h1 => ?_) fun h1 => ?_
              · simp -failIfUnchanged at h1; all_goals
               refine vwp_seq_k fun K4 hK4 => ?_
               simp_all
              · simp -failIfUnchanged at h1; all_goals
               refine vwp_skip ?_
               refine hK2 _ ?_
               try clear hK2 K2
               refine vwp_seq_k fun K5 hK5 => ?_
               refine vwp_sq [2, 3] fun K6 hK6 => vwp_region hT ?_
               simp
               refine hK6 _ ?_
               try clear hK6 K6
               refine vwp_block ?_
               refine vwp_loop_s (fun i : Nat => ⟨[(2, .ptr 0 6 0), (3, .ptr 1 6 0), (5, .int .i64 (i : Int))], [.live a.cells, .live b.cells]⟩) (fun i => i ≤ a.rs.length ∧ a.rs.take i = b.rs.take i) (fun i => a.rs.length - i) (0) (Gh.to_k [2, 3, 5] [0, 1]) (⟨by omega, by simp⟩) ?_
               rintro i ⟨hi, hab⟩
               intro K7 hK7
               refine vwp_seq_k fun K8 hK8 => ?_
               refine vwp_sq [2, 3, 5] fun K9 hK9 => vwp_region hT ?_
               simp
               refine hK9 _ ?_
               try clear hK9 K9
               refine vwp_cond (by first | rfl | (simp; rfl)) (fun h2 => ?_) fun h2 => ?_
               · simp -failIfUnchanged at h2; all_goals
                refine vwp_skip ?_
                refine hK8 _ ?_
                try clear hK8 K8
                refine vwp_seq_k fun K10 hK10 => ?_
                refine vwp_block ?_
                obtain ⟨x, hx⟩ := getI (l := a.rs) (i := i) (by omega)
                obtain ⟨y, hy⟩ := getI (l := b.rs) (i := i) (by omega)
                have hrx := rowRwx hx
                have hry := rowRwx hy
                have hlx := lenRwx a.rs
                have hly := lenRwx b.rs
                refine vwp_sq [2, 3, 5] fun K11 hK11 => vwp_still hT hm (by kernel_rfl) ?_
                simp [hrx, hry, hlx, hly]
                repeat refine ⟨by first | assumption | omega | (intros; omega), ?_⟩
                refine hK11 _ ?_
                try clear hK11 K11
                refine vwp_cond (by first | rfl | (simp; rfl)) (fun h3 => ?_) fun h3 => ?_
                · simp -failIfUnchanged at h3; all_goals
                 have q := h3
                 have hxn : ¬ x = y := by rintro rfl; simp at q
                 refine vwp_sq [] fun K12 hK12 => vwp_region hT ?_
                 simp
                 refine hK12 _ ?_
                 try clear hK12 K12
                 refine vwp_ret (hR _ _ ?_)
                 rw [hD]
                 exact ret_k [4] [] ([]) (.bool (decide (a.rs = b.rs))) (⟨rfl, rfl⟩) (hr := by
                   simp
                   intro e; rw [e, hy] at hx
                   exact hxn (Option.some.inj hx).symm)
                · simp -failIfUnchanged at h3; all_goals
                 have q := h3
                 have hxy : x = y := by
                   simp -failIfUnchanged at q
                   exact rwx_ne.1 ⟨q.1, q.2.1, q.2.2.1, q.2.2.2⟩
                 refine vwp_skip ?_
                 refine hK10 _ ?_
                 try clear hK10 K10
                 have w1 : IntKind.i64.wrap ((i : Int) + 1) = i + 1 := w64 (by omega) (by omega)
                 refine vwp_live [2, 3, 5] (vwp_region hT ?_)
                 simp [w1]
                 exact hK7 (i + 1) _ (Gh.to_k [2, 3, 5] [0, 1]) (⟨by omega, by rw [List.take_add_one, List.take_add_one, hab, hx, hy, hxy]⟩) (by omega)
               · simp -failIfUnchanged at h2; all_goals
                refine vwp_exit ?_
                simp only [inBlk, thenQ, if_true]
                refine hK5 _ ?_
                try clear hK5 K5
                refine vwp_sq [] fun K13 hK13 => vwp_region hT ?_
                simp
                refine hK13 _ ?_
                try clear hK13 K13
                refine vwp_ret (hR _ _ ?_)
                rw [hD]
                exact ret_k [4] [] ([]) (.bool (decide (a.rs = b.rs))) (⟨rfl, rfl⟩) (hr := by
                  rw [List.take_of_length_le (by omega), List.take_of_length_le (by omega)] at hab
                  simp [hab])
            · have hgd : decide (a.gs = b.gs) = false := by simpa using hg
              refine vwp_live [2, 3] (vwp_region hT ?_)
              simp [hap, had, hrup, hrud, hfep, hfed, hrlp, hrld, hfp, hfd, hg, hgd]
              refine vcall_z [] (same_spec a.fs b.fs (by omega) (by omega)) (by rintro r ob' ⟨rfl, rfl⟩; simp) ?_
              rintro r ob' ⟨rfl, rfl⟩
              simp [hap, had, hrup, hrud, hfep, hfed, hrlp, hrld, hfp, hfd, hg, hgd]
              refine vcall_z [] (ints_spec a.gs b.gs (by omega) (by omega)) (by rintro r ob' ⟨rfl, rfl⟩; simp) ?_
              rintro r ob' ⟨rfl, rfl⟩
              simp [hap, had, hrup, hrud, hfep, hfed, hrlp, hrld, hfp, hfd, hg, hgd]
              refine hK3 _ ?_
              try clear hK3 K3
              refine vwp_cond (by first | rfl | (simp; rfl)) (fun h4 => ?_) fun h4 => ?_
              · simp -failIfUnchanged at h4; all_goals
               refine vwp_sq [] fun K14 hK14 => vwp_region hT ?_
               simp
               refine hK14 _ ?_
               try clear hK14 K14
               refine vwp_ret (hR _ _ ?_)
               have hD : decide (a = b) = false := by rw [decide_eq_false_iff_not, vw_eq]; rintro ⟨⟨e1, e2, e3⟩, h2, h3, h4⟩; contradiction
               rw [hD]
               exact ret_k [4] [] ([]) (.bool false) (⟨rfl, rfl⟩)
              · simp -failIfUnchanged at h4; all_goals
               refine vwp_skip ?_
               refine hK2 _ ?_
               try clear hK2 K2
               refine vwp_seq_k fun K15 hK15 => ?_
               refine vwp_seq_k fun K16 hK16 => ?_
               simp_all
          · have hfd : decide (a.fs = b.fs) = false := by simpa using hf
            refine vwp_live [2, 3] (vwp_region hT ?_)
            simp [hap, had, hrup, hrud, hfep, hfed, hrlp, hrld, hf, hfd]
            refine vcall_z [] (same_spec a.fs b.fs (by omega) (by omega)) (by rintro r ob' ⟨rfl, rfl⟩; simp) ?_
            rintro r ob' ⟨rfl, rfl⟩
            simp [hap, had, hrup, hrud, hfep, hfed, hrlp, hrld, hf, hfd]
            refine hK3 _ ?_
            try clear hK3 K3
            refine vwp_cond (by first | rfl | (simp; rfl)) (fun h5 => ?_) fun h5 => ?_
            · simp -failIfUnchanged at h5; all_goals
             refine vwp_sq [] fun K17 hK17 => vwp_region hT ?_
             simp
             refine hK17 _ ?_
             try clear hK17 K17
             refine vwp_ret (hR _ _ ?_)
             have hD : decide (a = b) = false := by rw [decide_eq_false_iff_not, vw_eq]; rintro ⟨⟨e1, e2, e3⟩, h2, h3, h4⟩; contradiction
             rw [hD]
             exact ret_k [4] [] ([]) (.bool false) (⟨rfl, rfl⟩)
            · simp -failIfUnchanged at h5; all_goals
             refine vwp_skip ?_
             refine hK2 _ ?_
             try clear hK2 K2
             refine vwp_seq_k fun K18 hK18 => ?_
             refine vwp_seq_k fun K19 hK19 => ?_
             simp_all
        · have hrln : ¬ (a.rs.length : Int) = b.rs.length := by omega
          have hrld : ((a.rs.length : Int) != b.rs.length) = true := by rw [bne_iff_ne]; omega
          have hr : ¬ a.rs = b.rs := fun e => hrl (by rw [e])
          refine vwp_live [2, 3] (vwp_region hT ?_)
          simp [hap, had, hrup, hrud, hfep, hfed, hrln, hrld, hrl]
          refine hK3 _ ?_
          try clear hK3 K3
          refine vwp_cond (by first | rfl | (simp; rfl)) (fun h6 => ?_) fun h6 => ?_
          · simp -failIfUnchanged at h6; all_goals
           refine vwp_sq [] fun K20 hK20 => vwp_region hT ?_
           simp
           refine hK20 _ ?_
           try clear hK20 K20
           refine vwp_ret (hR _ _ ?_)
           have hD : decide (a = b) = false := by rw [decide_eq_false_iff_not, vw_eq]; rintro ⟨⟨e1, e2, e3⟩, h2, h3, h4⟩; contradiction
           rw [hD]
           exact ret_k [4] [] ([]) (.bool false) (⟨rfl, rfl⟩)
          · simp -failIfUnchanged at h6; all_goals
           refine vwp_skip ?_
           refine hK2 _ ?_
           try clear hK2 K2
           refine vwp_seq_k fun K21 hK21 => ?_
           refine vwp_seq_k fun K22 hK22 => ?_
           simp_all
      · have hfed : (a.fe != b.fe) = true := by simpa using hfe
        refine vwp_live [2, 3] (vwp_region hT ?_)
        simp [hap, had, hrup, hrud, hfe, hfed]
        refine hK3 _ ?_
        try clear hK3 K3
        refine vwp_cond (by first | rfl | (simp; rfl)) (fun h7 => ?_) fun h7 => ?_
        · simp -failIfUnchanged at h7; all_goals
         refine vwp_sq [] fun K23 hK23 => vwp_region hT ?_
         simp
         refine hK23 _ ?_
         try clear hK23 K23
         refine vwp_ret (hR _ _ ?_)
         have hD : decide (a = b) = false := by rw [decide_eq_false_iff_not, vw_eq]; rintro ⟨⟨e1, e2, e3⟩, h2, h3, h4⟩; contradiction
         rw [hD]
         exact ret_k [4] [] ([]) (.bool false) (⟨rfl, rfl⟩)
        · simp -failIfUnchanged at h7; all_goals
         refine vwp_skip ?_
         refine hK2 _ ?_
         try clear hK2 K2
         refine vwp_seq_k fun K24 hK24 => ?_
         refine vwp_seq_k fun K25 hK25 => ?_
         simp_all
    · have hrud : (a.ru != b.ru) = true := by simpa using hru
      refine vwp_live [2, 3] (vwp_region hT ?_)
      simp [hap, had, hru, hrud]
      refine hK3 _ ?_
      try clear hK3 K3
      refine vwp_cond (by first | rfl | (simp; rfl)) (fun h8 => ?_) fun h8 => ?_
      · simp -failIfUnchanged at h8; all_goals
       refine vwp_sq [] fun K26 hK26 => vwp_region hT ?_
       simp
       refine hK26 _ ?_
       try clear hK26 K26
       refine vwp_ret (hR _ _ ?_)
       have hD : decide (a = b) = false := by rw [decide_eq_false_iff_not, vw_eq]; rintro ⟨⟨e1, e2, e3⟩, h2, h3, h4⟩; contradiction
       rw [hD]
       exact ret_k [4] [] ([]) (.bool false) (⟨rfl, rfl⟩)
      · simp -failIfUnchanged at h8; all_goals
       refine vwp_skip ?_
       refine hK2 _ ?_
       try clear hK2 K2
       refine vwp_seq_k fun K27 hK27 => ?_
       refine vwp_seq_k fun K28 hK28 => ?_
       simp_all
  · have had : (a.am != b.am) = true := by simpa using ha
    refine vwp_live [2, 3] (vwp_region hT ?_)
    simp [ha, had]
    refine hK3 _ ?_
    try clear hK3 K3
    refine vwp_cond (by first | rfl | (simp; rfl)) (fun h9 => ?_) fun h9 => ?_
    · simp -failIfUnchanged at h9; all_goals
     refine vwp_sq [] fun K29 hK29 => vwp_region hT ?_
     simp
     refine hK29 _ ?_
     try clear hK29 K29
     refine vwp_ret (hR _ _ ?_)
     have hD : decide (a = b) = false := by rw [decide_eq_false_iff_not, vw_eq]; rintro ⟨⟨e1, e2, e3⟩, h2, h3, h4⟩; contradiction
     rw [hD]
     exact ret_k [4] [] ([]) (.bool false) (⟨rfl, rfl⟩)
    · simp -failIfUnchanged at h9; all_goals
     refine vwp_skip ?_
     refine hK2 _ ?_
     try clear hK2 K2
     refine vwp_seq_k fun K30 hK30 => ?_
     refine vwp_seq_k fun K31 hK31 => ?_
     simp_all
end Go.Proofs.Ytmpakfpmmkfgpaa
