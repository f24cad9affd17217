/- DiskDown: what it answers. -/
import Derived.Test.YtibhpkolbffdaaaLaw04d
import Derived.Test.YtibhpkolbffdaaaDisk3
import Derived.Test.YtibhpkolbffdaaaSame
namespace Go.Proofs.Ytibhpkolbffdaaa
open Go Go.VX Go.RowKit
set_option linter.unusedVariables false
set_option linter.unusedSimpArgs false
set_option maxHeartbeats 20000000
set_option maxRecDepth 100000

/-- Without power. -/
structure Dk.off (d e : Dk) : Prop where
  down : e.down = true
  B : e.B = d.B
  writes : e.writes = d.writes
theorem off_write {d : Dk} {n : Nat} (hd : d.ok n) : ∃ d2 : Dk, (d.fused 0 0).write n 0 [1] = (7, d2) ∧ d2.ok n ∧ d2.down = true := by
  have h2 := hd.n2
  have hf := Dk.fused_ok (n := n) hd 0 0 (by omega)
  have hw := Dk.write_ok hf 0 [1]
  unfold Dk.write at hw ⊢
  rw [if_pos (by omega), if_neg (by simp)] at hw ⊢
  split
  · rename_i h
    rw [if_pos h] at hw
    exact ⟨_, rfl, hw, h⟩
  · rename_i h
    rw [if_neg h] at hw
    have e : (d.fused 0 0).fuse = 0 := by show max 0 (-1) = (0 : Int); omega
    rw [if_pos e] at hw ⊢
    exact ⟨_, rfl, hw, rfl⟩
theorem off_step {d e : Dk} {n : Nat} (h : d.off e) {x : DOp} (h2 : x.do_ ≠ 2) (h3 : x.do_ ≠ 3) : d.off (e.step n x).2 ∧ (x.do_ = 0 → 0 ≤ x.a → x.a < n → x.b.length ≤ 32 → (e.step n x).1 = 7) := by
  obtain ⟨a1, a2, a3⟩ := h
  unfold Dk.step
  by_cases h0 : x.do_ = 0
  · rw [if_pos h0]
    unfold Dk.write
    split
    · split
      · exact ⟨⟨a1, a2, a3⟩, fun _ _ _ q => by omega⟩
      · first
        | exact ⟨⟨a1, a2, a3⟩, fun _ _ _ _ => rfl⟩
        | (rw [if_pos a1]; exact ⟨⟨a1, a2, a3⟩, fun _ _ _ _ => rfl⟩)
    · exact ⟨⟨a1, a2, a3⟩, fun _ _ _ _ => by omega⟩
  · rw [if_neg h0]
    by_cases h1 : x.do_ = 1
    · rw [if_pos h1]
      exact ⟨⟨a1, a2, a3⟩, fun q => absurd q h0⟩
    · rw [if_neg h1, if_neg h2, if_neg h3]
      exact ⟨⟨a1, a2, a3⟩, fun q => absurd q h0⟩
theorem off_sector {d e : Dk} (h : d.off e) (k : Nat) : e.sector k = d.sector k := by
  unfold Dk.sector
  rw [h.B]
theorem off_last {d : Dk} {n : Nat} (hd : d.ok n) : (d.crashed.write n 0 []).1 = 0 := by
  have h2 := hd.n2
  unfold Dk.write
  rw [if_pos (by omega), if_neg (by simp), if_neg (by simp [Dk.crashed]), if_neg (by simp [Dk.crashed])]
theorem down_spec (s : Int) (l more : List DOp) (hl : l.length ≤ 140737488355328) (hb : ∀ x ∈ l, x.b.length ≤ 140737488355328) (ha : ∀ x ∈ l, x.a ≤ 9223372036854775807)
    (hl2 : more.length ≤ 140737488355328) (hb2 : ∀ x ∈ more, x.b.length ≤ 140737488355328) (ha2 : ∀ x ∈ more, x.a ≤ 9223372036854775807) :
    VC P 5 [.int .i64 s, .fs l.length (opsV l), .fs more.length (opsV more)] [] (fun r ob' => r = .bool true) := by
  refine VC_of_vwp_k ent_5 Try.func5 rfl (by simp [Try.ntmps5]) fun R hR => ?_
  refine vwp_seq_k fun K1 hK1 => ?_
  refine vwp_live [0, 1, 2] ?_
  try simp only [argSlots, pruneS, inN, eq_self, reduceIte, ite_true, Nat.reduceAdd, Nat.reduceBEq, Bool.or_true, Bool.true_or, Bool.or_false, Bool.false_or, if_true, if_false, Bool.false_eq_true]
  refine vwp_region hT ?_
  simp [-List.reduceReplicate, Dk.obs, Try.ntmps5]
  repeat refine ⟨by first | assumption | omega | (rw [spl_length (by simp; omega)]; simp; done) | (intros; omega), ?_⟩
  refine hK1 _ ?_
  try clear hK1 K1
  refine vwp_seq_k fun K2 hK2 => ?_
  refine vwp_seq_k fun K3 hK3 => ?_
  refine vwp_live [0, 1, 2] ?_
  try simp only [argSlots, pruneS, inN, eq_self, reduceIte, ite_true, Nat.reduceAdd, Nat.reduceBEq, Bool.or_true, Bool.true_or, Bool.or_false, Bool.false_or, if_true, if_false, Bool.false_eq_true]
  refine vwp_region hT ?_
  simp [-List.reduceReplicate, Dk.obs]
  refine vcall_by0 [] (awake_spec) (by simp) (by simp [Dk.obs, Dk.robs, Dk.two]) (by simp) (by simp [Dk.obs, Dk.robs, Dk.two]) ?_
  rintro r ob' ⟨rfl, rfl⟩
  simp [-List.reduceReplicate, Dk.obs]
  repeat refine ⟨by first | assumption | omega | (rw [spl_length (by simp; omega)]; simp; done) | (intros; omega), ?_⟩
  refine hK3 _ ?_
  try clear hK3 K3
  refine vwp_cond (by first | rfl | (simp; rfl)) (fun h1 => ?_) (fun h1 => ?_)
  · try (exfalso; simp at h1; done)
    all_goals
      try simp at h1
      refine vwp_seq_k fun K4 hK4 => ?_
      refine vwp_live [] ?_
      try simp only [argSlots, pruneS, inN, eq_self, reduceIte, ite_true, Nat.reduceAdd, Nat.reduceBEq, Bool.or_true, Bool.true_or, Bool.or_false, Bool.false_or, if_true, if_false, Bool.false_eq_true]
      refine vwp_region hT ?_
      simp [-List.reduceReplicate, Dk.obs]
      repeat refine ⟨by first | assumption | omega | (rw [spl_length (by simp; omega)]; simp; done) | (intros; omega), ?_⟩
      refine hK4 _ ?_
      try clear hK4 K4
      refine vwp_ret ?_
      try simp only [thenQ, inBlk]
      refine hR _ _ ?_
      refine ret_only [6] [] [] (by simp) (by simp) rfl (by simp) (r := .bool true) (by simp [Try.f5]) rfl
  · try (exfalso; simp at h1; done)
    all_goals
      try simp at h1
      refine vwp_skip ?_
      try simp only [thenQ, inBlk]
      refine hK2 _ ?_
      try clear hK2 K2
      refine vwp_seq_k fun K5 hK5 => ?_
      refine vwp_cut_k (fun st => ∃ b : Bool, (b = false → smallOps l ∧ smallOps more ∧ s ≤ 64) ∧ Gh ⟨Try.f5.ntmps, 0⟩ st ⟨[(0, .int .i64 s), (1, .fs l.length (opsV l)), (2, .fs more.length (opsV more)), (34, .bool b)], []⟩) (fun K6 hK6 => ?_) ?_
      · refine vwp_live [0, 1, 2] ?_
        try simp only [argSlots, pruneS, inN, eq_self, reduceIte, ite_true, Nat.reduceAdd, Nat.reduceBEq, Bool.or_true, Bool.true_or, Bool.or_false, Bool.false_or, if_true, if_false, Bool.false_eq_true]
        refine vwp_region hT ?_
        simp [-List.reduceReplicate, Dk.obs]
        refine vcall_by0 [] (large_spec l hl hb) (by simp) (by simp [Dk.obs, Dk.robs, Dk.two]) (by simp) (by simp [Dk.obs, Dk.robs, Dk.two]) ?_
        rintro r ob' ⟨⟨v, rfl, hv⟩, rfl⟩
        simp [-List.reduceReplicate, Dk.obs]
        cases v
        case true =>
          simp
          repeat refine ⟨by omega, ?_⟩
          refine hK6 _ ⟨true, by simp, ?_⟩
          refine Gh.to [0, 1, 2, 34] [] _ (_) ?_ ?_ rfl ?_ ?_
          · simp
          · simp [Dk.obs]
          · simp [Dk.obs]
          · simp [Dk.obs]
        simp
        refine vcall_by0 [] (large_spec more hl2 hb2) (by simp) (by simp [Dk.obs, Dk.robs, Dk.two]) (by simp) (by simp [Dk.obs, Dk.robs, Dk.two]) ?_
        rintro r ob' ⟨⟨v, rfl, hv2⟩, rfl⟩
        simp [-List.reduceReplicate, Dk.obs]
        repeat refine ⟨by first | assumption | omega | (rw [spl_length (by simp; omega)]; simp; done) | (intros; omega), ?_⟩
        refine hK6 _ ?_
        refine ⟨v || decide (64 < s), fun q => ?_, ?_⟩
        · simp at q
          exact ⟨hv rfl, hv2 q.1, q.2⟩
        · refine Gh.to [0, 1, 2, 34] [] _ (_) ?_ ?_ rfl ?_ ?_
          · simp
          · simp [Dk.obs]
          · simp [Dk.obs]
          · simp [Dk.obs]
      · rintro st ⟨b, hv, hg⟩
        refine vwp_gh hg ?_
        clear hg
        refine vwp_cond (by first | rfl | (simp; rfl)) (fun h2 => ?_) (fun h2 => ?_)
        · try (exfalso; simp at h2; done)
          all_goals
            try simp at h2
            refine vwp_seq_k fun K7 hK7 => ?_
            refine vwp_live [] ?_
            try simp only [argSlots, pruneS, inN, eq_self, reduceIte, ite_true, Nat.reduceAdd, Nat.reduceBEq, Bool.or_true, Bool.true_or, Bool.or_false, Bool.false_or, if_true, if_false, Bool.false_eq_true]
            refine vwp_region hT ?_
            simp [-List.reduceReplicate, Dk.obs]
            repeat refine ⟨by first | assumption | omega | (rw [spl_length (by simp; omega)]; simp; done) | (intros; omega), ?_⟩
            refine hK7 _ ?_
            try clear hK7 K7
            refine vwp_ret ?_
            try simp only [thenQ, inBlk]
            refine hR _ _ ?_
            refine ret_only [6] [] [] (by simp) (by simp) rfl (by simp) (r := .bool true) (by simp [Try.f5]) rfl
        · try (exfalso; simp at h2; done)
          all_goals
            try simp at h2
            refine vwp_skip ?_
            try simp only [thenQ, inBlk]
            refine hK5 _ ?_
            try clear hK5 K5
            refine vwp_seq_k fun K8 hK8 => ?_
            by_cases hs : 2 ≤ s ∧ s ≤ 4096
            · obtain ⟨hsm, hsm2, hs64⟩ := hv (by assumption)
              obtain ⟨n, rfl⟩ : ∃ n : Nat, s = n := ⟨s.toNat, by omega⟩
              have o0 : (Dk.new n).ok n := Dk.new_ok (by omega) (by omega)
              refine vwp_live [0, 1, 2] ?_
              try simp only [argSlots, pruneS, inN, eq_self, reduceIte, ite_true, Nat.reduceAdd, Nat.reduceBEq, Bool.or_true, Bool.true_or, Bool.or_false, Bool.false_or, if_true, if_false, Bool.false_eq_true]
              refine vwp_region hT ?_
              simp [-List.reduceReplicate, Dk.obs]
              refine vcall_by0 [] (new_spec n) (by simp) (by simp [Dk.obs, Dk.robs, Dk.two]) (by simp) (by simp [Dk.obs, Dk.robs, Dk.two]) ?_
              intro r ob' hq
              rw [if_pos hs] at hq
              obtain ⟨rfl, rfl⟩ := hq
              simp [-List.reduceReplicate, Dk.obs]
              repeat refine ⟨by first | assumption | omega | (rw [spl_length (by simp; omega)]; simp; done) | (intros; omega), ?_⟩
              refine hK8 _ ?_
              try clear hK8 K8
              refine vwp_seq_k fun K9 hK9 => ?_
              refine vwp_seq_k fun K10 hK10 => ?_
              refine vwp_live [0, 1, 2, 7] ?_
              try simp only [argSlots, pruneS, inN, eq_self, reduceIte, ite_true, Nat.reduceAdd, Nat.reduceBEq, Bool.or_true, Bool.true_or, Bool.or_false, Bool.false_or, if_true, if_false, Bool.false_eq_true]
              refine vwp_region hT ?_
              simp [-List.reduceReplicate, Dk.obs]
              repeat refine ⟨by first | assumption | omega | (rw [spl_length (by simp; omega)]; simp; done) | (intros; omega), ?_⟩
              refine hK10 _ ?_
              try clear hK10 K10
              refine vwp_cond (by first | rfl | (simp; rfl)) (fun h3 => ?_) (fun h3 => ?_)
              · try (exfalso; simp at h3; done)
                all_goals
                  try simp at h3
                  refine vwp_seq_k fun K11 hK11 => ?_
                  refine vwp_live [] ?_
                  try simp only [argSlots, pruneS, inN, eq_self, reduceIte, ite_true, Nat.reduceAdd, Nat.reduceBEq, Bool.or_true, Bool.true_or, Bool.or_false, Bool.false_or, if_true, if_false, Bool.false_eq_true]
                  refine vwp_region hT ?_
                  simp [-List.reduceReplicate, Dk.obs]
                  repeat refine ⟨by first | assumption | omega | (rw [spl_length (by simp; omega)]; simp; done) | (intros; omega), ?_⟩
                  refine hK11 _ ?_
                  try clear hK11 K11
                  refine vwp_ret ?_
                  try simp only [thenQ, inBlk]
                  refine hR _ _ ?_
                  refine ret_only [6] [] [] (by simp) (by simp) rfl (by simp) (r := .bool true) (by simp [Try.f5]) rfl
              · try (exfalso; simp at h3; done)
                all_goals
                  try simp at h3
                  refine vwp_skip ?_
                  try simp only [thenQ, inBlk]
                  refine hK9 _ ?_
                  try clear hK9 K9
                  refine vwp_seq_k fun K12 hK12 => ?_
                  refine vwp_seq_k fun K13 hK13 => ?_
                  refine vwp_live [0, 1, 2, 7] ?_
                  try simp only [argSlots, pruneS, inN, eq_self, reduceIte, ite_true, Nat.reduceAdd, Nat.reduceBEq, Bool.or_true, Bool.true_or, Bool.or_false, Bool.false_or, if_true, if_false, Bool.false_eq_true]
                  refine vwp_region hT ?_
                  simp [-List.reduceReplicate, Dk.obs]
                  repeat refine ⟨by first | assumption | omega | (rw [spl_length (by simp; omega)]; simp; done) | (intros; omega), ?_⟩
                  refine hK13 _ ?_
                  try clear hK13 K13
                  refine vwp_block ?_
                  refine vwp_gh (st' := ⟨[(0, .int .i64 (n : Int)), (2, .fs more.length (opsV more)), (7, .ptr 0 5 0), (42, .fs l.length (opsV l)), (43, .int .i64 (l.length : Int)), (44, .int .i64 0)], (Dk.new n).obs n⟩) ?_ ?_
                  · refine Gh.to [0, 2, 7, 42, 43, 44] [0, 1] _ (_) ?_ ?_ rfl ?_ ?_
                    · simp
                    · simp [Dk.obs]
                    · simp [Dk.obs]
                    · simp [Dk.obs]
                  refine vwp_loop_k (fun m st => ∃ (i : Nat) (d : Dk), d.ok n ∧ i ≤ l.length ∧ m = l.length - i ∧ st = ⟨[(0, .int .i64 (n : Int)), (2, .fs more.length (opsV more)), (7, .ptr 0 5 0), (42, .fs l.length (opsV l)), (43, .int .i64 (l.length : Int)), (44, .int .i64 (i : Int))], d.obs n⟩) l.length ⟨0, Dk.new n, o0, by omega, by simp, rfl⟩ ?_
                  rintro m st ⟨i, d, hd, hi, rfl, rfl⟩
                  intro K14 hK14
                  refine vwp_seq_k fun K15 hK15 => ?_
                  refine vwp_live [0, 2, 7, 42, 43, 44] ?_
                  try simp only [argSlots, pruneS, inN, eq_self, reduceIte, ite_true, Nat.reduceAdd, Nat.reduceBEq, Bool.or_true, Bool.true_or, Bool.or_false, Bool.false_or, if_true, if_false, Bool.false_eq_true]
                  refine vwp_region hT ?_
                  simp [-List.reduceReplicate, Dk.obs]
                  repeat refine ⟨by first | assumption | omega | (rw [spl_length (by simp; omega)]; simp; done) | (intros; omega), ?_⟩
                  refine hK15 _ ?_
                  try clear hK15 K15
                  refine vwp_seq_k fun K16 hK16 => ?_
                  refine vwp_cond (by first | rfl | (simp; rfl)) (fun h4 => ?_) (fun h4 => ?_)
                  · try (exfalso; simp at h4; done)
                    all_goals
                      try simp at h4
                      refine vwp_skip ?_
                      try simp only [thenQ, inBlk]
                      refine hK16 _ ?_
                      try clear hK16 K16
                      refine vwp_seq_k fun K17 hK17 => ?_
                      refine vwp_block ?_
                      refine vwp_seq_k fun K18 hK18 => ?_
                      obtain ⟨x, hx⟩ : ∃ x, l[i]? = some x := ⟨_, List.getElem?_eq_getElem (by omega)⟩
                      have hxb := hb x (List.mem_of_getElem? hx)
                      have hxa := ha x (List.mem_of_getElem? hx)
                      have hdr := opsV_drop hx
                      refine vwp_live [0, 2, 7, 42, 43, 44] ?_
                      try simp only [argSlots, pruneS, inN, eq_self, reduceIte, ite_true, Nat.reduceAdd, Nat.reduceBEq, Bool.or_true, Bool.true_or, Bool.or_false, Bool.false_or, if_true, if_false, Bool.false_eq_true]
                      refine vwp_region hT ?_
                      simp [-List.reduceReplicate, Dk.obs, hdr, opsV_length]
                      repeat refine ⟨by first | assumption | omega | (rw [spl_length (by simp; omega)]; simp; done) | (intros; omega), ?_⟩
                      refine hK18 _ ?_
                      try clear hK18 K18
                      refine vwp_live [0, 2, 7, 10, 42, 43, 44] ?_
                      try simp only [argSlots, pruneS, inN, eq_self, reduceIte, ite_true, Nat.reduceAdd, Nat.reduceBEq, Bool.or_true, Bool.true_or, Bool.or_false, Bool.false_or, if_true, if_false, Bool.false_eq_true]
                      refine vwp_region hT ?_
                      simp [-List.reduceReplicate, Dk.obs]
                      refine vcall_by0 [0, 1] (do_spec d n hd x) (by simp) (by simp [Dk.obs, Dk.robs, Dk.two]) (by simp) (by simp [Dk.obs, Dk.robs, Dk.two]) ?_
                      rintro r ob' ⟨rfl, rfl⟩
                      simp [-List.reduceReplicate, Dk.obs]
                      repeat refine ⟨by first | assumption | omega | (rw [spl_length (by simp; omega)]; simp; done) | (intros; omega), ?_⟩
                      refine hK17 _ ?_
                      try clear hK17 K17
                      refine vwp_live [0, 2, 7, 42, 43, 44] ?_
                      try simp only [argSlots, pruneS, inN, eq_self, reduceIte, ite_true, Nat.reduceAdd, Nat.reduceBEq, Bool.or_true, Bool.true_or, Bool.or_false, Bool.false_or, if_true, if_false, Bool.false_eq_true]
                      refine vwp_region hT ?_
                      simp [-List.reduceReplicate, Dk.obs]
                      repeat refine ⟨by first | assumption | omega | (rw [spl_length (by simp; omega)]; simp; done) | (intros; omega), ?_⟩
                      refine hK14 _ ?_
                      refine ⟨_, Gh.to [0, 2, 7, 42, 43, 44] [0, 1] [(0, .int .i64 (n : Int)), (2, .fs more.length (opsV more)), (7, .ptr 0 5 0), (42, .fs l.length (opsV l)), (43, .int .i64 (l.length : Int)), (44, .int .i64 ((i + 1 : Nat) : Int))] ((d.step n x).2.obs n) (by simp) (by simp [Dk.obs]) rfl (by simp) (by simp; exact w64 (by omega) (by omega)), l.length - (i + 1), by omega, i + 1, _, Dk.step_ok (n := n) hd x hxa, by omega, rfl, rfl⟩
                  · try (exfalso; simp at h4; done)
                    all_goals
                      try simp at h4
                      refine vwp_exit ?_
                      simp only [inBlk, thenQ, if_true]
                      refine hK12 _ ?_
                      try clear hK12 K12
                      refine vwp_seq_k fun K19 hK19 => ?_
                      refine vwp_live [0, 2, 7] ?_
                      try simp only [argSlots, pruneS, inN, eq_self, reduceIte, ite_true, Nat.reduceAdd, Nat.reduceBEq, Bool.or_true, Bool.true_or, Bool.or_false, Bool.false_or, if_true, if_false, Bool.false_eq_true]
                      refine vwp_region hT ?_
                      simp [-List.reduceReplicate, Dk.obs]
                      refine vcall_by0 [0, 1] (fuse_spec d n 0 0) (by simp) (by simp [Dk.obs, Dk.robs, Dk.two]) (by simp) (by simp [Dk.obs, Dk.robs, Dk.two]) ?_
                      rintro r ob' ⟨rfl, rfl⟩
                      simp [-List.reduceReplicate, Dk.obs]
                      repeat refine ⟨by first | assumption | omega | (rw [spl_length (by simp; omega)]; simp; done) | (intros; omega), ?_⟩
                      refine hK19 _ ?_
                      try clear hK19 K19
                      refine vwp_seq_k fun K20 hK20 => ?_
                      refine vwp_live [0, 2, 7] ?_
                      try simp only [argSlots, pruneS, inN, eq_self, reduceIte, ite_true, Nat.reduceAdd, Nat.reduceBEq, Bool.or_true, Bool.true_or, Bool.or_false, Bool.false_or, if_true, if_false, Bool.false_eq_true]
                      refine vwp_region hT ?_
                      simp [-List.reduceReplicate, Dk.obs]
                      have hfk := Dk.fused_ok (n := n) hd 0 0 (by omega)
                      refine vcall_by [0, 1] true (write_spec (d.fused 0 0) n hfk 0 [1]) (by simp) (by simp [Dk.obs]) (by simp) (by simp [Dk.obs]) ?_
                      rintro r ob' ⟨rfl, rfl⟩
                      obtain ⟨d2, hw, hd2, hdn⟩ := off_write hd
                      rw [hw]
                      refine ⟨by simp [V.nofz, V.nofzA, V.nofz1, V.nofz0, Ob.nofz, Dk.obs], ?_⟩
                      simp [-List.reduceReplicate, Dk.obs]
                      repeat refine ⟨by first | assumption | omega | (rw [spl_length (by simp; omega)]; simp; done) | (intros; omega), ?_⟩
                      refine hK20 _ ?_
                      try clear hK20 K20
                      refine vwp_seq_k fun K21 hK21 => ?_
                      refine vwp_live [0, 2, 7, 11] ?_
                      try simp only [argSlots, pruneS, inN, eq_self, reduceIte, ite_true, Nat.reduceAdd, Nat.reduceBEq, Bool.or_true, Bool.true_or, Bool.or_false, Bool.false_or, if_true, if_false, Bool.false_eq_true]
                      refine vwp_region hT ?_
                      simp [-List.reduceReplicate, Dk.obs]
                      repeat refine ⟨by first | assumption | omega | (rw [spl_length (by simp; omega)]; simp; done) | (intros; omega), ?_⟩
                      refine hK21 _ ?_
                      try clear hK21 K21
                      refine vwp_seq_k fun K22 hK22 => ?_
                      refine vwp_seq_k fun K23 hK23 => ?_
                      refine vwp_live [0, 2, 7, 11, 12] ?_
                      try simp only [argSlots, pruneS, inN, eq_self, reduceIte, ite_true, Nat.reduceAdd, Nat.reduceBEq, Bool.or_true, Bool.true_or, Bool.or_false, Bool.false_or, if_true, if_false, Bool.false_eq_true]
                      refine vwp_region hT ?_
                      simp [-List.reduceReplicate, Dk.obs]
                      repeat refine ⟨by first | assumption | omega | (rw [spl_length (by simp; omega)]; simp; done) | (intros; omega), ?_⟩
                      refine hK23 _ ?_
                      try clear hK23 K23
                      refine vwp_block ?_
                      refine vwp_gh (Gh.virt 12 1 (by simp)) ?_
                      refine vwp_gh (st' := ⟨[(0, .int .i64 (n : Int)), (2, .fs more.length (opsV more)), (7, .ptr 0 5 0), (11, .int .i64 7), (12, .sl 2 0 1 0 0), (13, .int .i64 0)], d2.obs n ++ [.live []]⟩) ?_ ?_
                      · refine Gh.to [0, 2, 7, 11, 12, 13] [0, 1, 3] _ (_) ?_ ?_ rfl ?_ ?_
                        · simp
                        · simp [Dk.obs]
                        · simp [Dk.obs]
                        · simp [Dk.obs]
                      refine vwp_loop_k (fun m st => ∃ k : Nat, k ≤ n ∧ m = n - k ∧ st = ⟨[(0, .int .i64 (n : Int)), (2, .fs more.length (opsV more)), (7, .ptr 0 5 0), (11, .int .i64 7), (12, .sl 2 k 1 0 k), (13, .int .i64 k)], d2.obs n ++ [.live ((List.range k).map fun j => V.fs 32 (bts (d2.sector j)))]⟩) n ⟨0, by omega, by simp, by simp⟩ ?_
                      rintro m st ⟨k, hk, rfl, rfl⟩
                      intro K24 hK24
                      refine vwp_seq_k fun K25 hK25 => ?_
                      refine vwp_seq_k fun K26 hK26 => ?_
                      refine vwp_live [0, 2, 7, 11, 12, 13] ?_
                      try simp only [argSlots, pruneS, inN, eq_self, reduceIte, ite_true, Nat.reduceAdd, Nat.reduceBEq, Bool.or_true, Bool.true_or, Bool.or_false, Bool.false_or, if_true, if_false, Bool.false_eq_true]
                      refine vwp_region hT ?_
                      simp [-List.reduceReplicate, Dk.obs]
                      repeat refine ⟨by first | assumption | omega | (rw [spl_length (by simp; omega)]; simp; done) | (intros; omega), ?_⟩
                      refine hK26 _ ?_
                      try clear hK26 K26
                      refine vwp_cond (by first | rfl | (simp; rfl)) (fun h5 => ?_) (fun h5 => ?_)
                      · try (exfalso; simp at h5; done)
                        all_goals
                          try simp at h5
                          refine vwp_skip ?_
                          try simp only [thenQ, inBlk]
                          refine hK25 _ ?_
                          try clear hK25 K25
                          refine vwp_seq_k fun K27 hK27 => ?_
                          refine vwp_block ?_
                          refine vwp_seq_k fun K28 hK28 => ?_
                          have hsk : (d2.sector k).length = 32 := sector_length (a := k) hd2 (by omega) (by omega)
                          have htk : List.take 32 (List.map (V.int .u8) (d2.sector k)) = bts (d2.sector k) := List.take_of_length_le (by simp [hsk])
                          refine vwp_live [0, 2, 7, 11, 12, 13] ?_
                          try simp only [argSlots, pruneS, inN, eq_self, reduceIte, ite_true, Nat.reduceAdd, Nat.reduceBEq, Bool.or_true, Bool.true_or, Bool.or_false, Bool.false_or, if_true, if_false, Bool.false_eq_true]
                          refine vwp_region hT ?_
                          simp [-List.reduceReplicate, Dk.obs]
                          refine vcall_by0 [0, 1] (read_spec d2 n hd2 k) (by simp) (by simp [Dk.obs, Dk.robs, Dk.two]) (by simp) (by simp [Dk.obs, Dk.robs, Dk.two]) ?_
                          intro r ob' hq
                          rw [if_pos (by omega)] at hq
                          obtain ⟨rfl, rfl⟩ := hq
                          simp [-List.reduceReplicate, Dk.obs]
                          repeat refine ⟨by first | assumption | omega | (rw [spl_length (by simp; omega)]; simp; done) | (intros; omega), ?_⟩
                          refine hK28 _ ?_
                          try clear hK28 K28
                          refine vwp_gh (Gh.freeze 3 (cs := bts (d2.sector k)) (by simp [Dk.obs]) (by simp)) ?_
                          refine vwp_gh (st' := ⟨[(0, .int .i64 (n : Int)), (2, .fs more.length (opsV more)), (7, .ptr 0 5 0), (11, .int .i64 7), (12, .sl 2 k 1 0 k), (13, .int .i64 k), (14, .fs 32 (bts (d2.sector k)))], d2.obs n ++ [.live ((List.range k).map fun j => V.fs 32 (bts (d2.sector j)))]⟩) ?_ ?_
                          · refine Gh.to [0, 2, 7, 11, 12, 13, 14] [0, 1, 2] _ (_) ?_ ?_ rfl ?_ ?_
                            · simp
                            · simp [Dk.obs, hsk, htk]
                            · simp [Dk.obs, hsk, htk]
                            · simp [Dk.obs, hsk, htk]
                          refine vwp_live [0, 2, 7, 11, 12, 13, 14] ?_
                          try simp only [argSlots, pruneS, inN, eq_self, reduceIte, ite_true, Nat.reduceAdd, Nat.reduceBEq, Bool.or_true, Bool.true_or, Bool.or_false, Bool.false_or, if_true, if_false, Bool.false_eq_true]
                          refine vwp_region hT ?_
                          simp [-List.reduceReplicate, Dk.obs]
                          repeat refine ⟨by first | assumption | omega | (rw [spl_length (by simp; omega)]; simp; done) | (intros; omega), ?_⟩
                          refine hK27 _ ?_
                          try clear hK27 K27
                          refine vwp_live [0, 2, 7, 11, 12, 13] ?_
                          try simp only [argSlots, pruneS, inN, eq_self, reduceIte, ite_true, Nat.reduceAdd, Nat.reduceBEq, Bool.or_true, Bool.true_or, Bool.or_false, Bool.false_or, if_true, if_false, Bool.false_eq_true]
                          refine vwp_region hT ?_
                          simp [-List.reduceReplicate, Dk.obs]
                          repeat refine ⟨by first | assumption | omega | (rw [spl_length (by simp; omega)]; simp; done) | (intros; omega), ?_⟩
                          refine hK24 _ ?_
                          refine ⟨_, Gh.to [0, 2, 7, 11, 12, 13] [0, 1, 2] [(0, .int .i64 (n : Int)), (2, .fs more.length (opsV more)), (7, .ptr 0 5 0), (11, .int .i64 7), (12, .sl 2 (k + 1) 1 0 (k + 1)), (13, .int .i64 ((k + 1 : Nat) : Int))] (d2.obs n ++ [.live ((List.range (k + 1)).map fun j => V.fs 32 (bts (d2.sector j)))]) (by simp) (by simp [Dk.obs, List.range_succ]) rfl (by simp) (by simp; exact w64 (by omega) (by omega)), n - (k + 1), by omega, k + 1, by omega, rfl, rfl⟩
                      · try (exfalso; simp at h5; done)
                        all_goals
                          try simp at h5
                          refine vwp_exit ?_
                          simp only [inBlk, thenQ, if_true]
                          refine hK22 _ ?_
                          try clear hK22 K22
                          refine vwp_seq_k fun K29 hK29 => ?_
                          obtain rfl : n = k := by omega
                          refine vwp_live [0, 2, 7, 11, 12] ?_
                          try simp only [argSlots, pruneS, inN, eq_self, reduceIte, ite_true, Nat.reduceAdd, Nat.reduceBEq, Bool.or_true, Bool.true_or, Bool.or_false, Bool.false_or, if_true, if_false, Bool.false_eq_true]
                          refine vwp_region hT ?_
                          simp [-List.reduceReplicate, Dk.obs]
                          refine vcall_by0 [0, 1] (writes_spec d2 n) (by simp) (by simp [Dk.obs, Dk.robs, Dk.two]) (by simp) (by simp [Dk.obs, Dk.robs, Dk.two]) ?_
                          rintro r ob' ⟨rfl, rfl⟩
                          simp [-List.reduceReplicate, Dk.obs]
                          repeat refine ⟨by first | assumption | omega | (rw [spl_length (by simp; omega)]; simp; done) | (intros; omega), ?_⟩
                          refine hK29 _ ?_
                          try clear hK29 K29
                          refine vwp_seq_k fun K30 hK30 => ?_
                          refine vwp_seq_k fun K31 hK31 => ?_
                          refine vwp_live [0, 2, 7, 11, 12, 16] ?_
                          try simp only [argSlots, pruneS, inN, eq_self, reduceIte, ite_true, Nat.reduceAdd, Nat.reduceBEq, Bool.or_true, Bool.true_or, Bool.or_false, Bool.false_or, if_true, if_false, Bool.false_eq_true]
                          refine vwp_region hT ?_
                          simp [-List.reduceReplicate, Dk.obs]
                          repeat refine ⟨by first | assumption | omega | (rw [spl_length (by simp; omega)]; simp; done) | (intros; omega), ?_⟩
                          refine hK31 _ ?_
                          try clear hK31 K31
                          refine vwp_block ?_
                          refine vwp_gh (st' := ⟨[(0, .int .i64 (n : Int)), (7, .ptr 0 5 0), (11, .int .i64 7), (12, .sl 2 n 1 0 n), (16, .int .i64 d2.writes), (74, .fs more.length (opsV more)), (75, .int .i64 (more.length : Int)), (76, .int .i64 0)], d2.obs n ++ [.live ((List.range n).map fun j => V.fs 32 (bts (d2.sector j)))]⟩) ?_ ?_
                          · refine Gh.to [0, 7, 11, 12, 16, 74, 75, 76] [0, 1, 2] _ (_) ?_ ?_ rfl ?_ ?_
                            · simp
                            · simp [Dk.obs]
                            · simp [Dk.obs]
                            · simp [Dk.obs]
                          refine vwp_loop_k (fun m st => ∃ (i : Nat) (d3 : Dk), d3.ok n ∧ d2.off d3 ∧ i ≤ more.length ∧ m = more.length - i ∧ st = ⟨[(0, .int .i64 (n : Int)), (7, .ptr 0 5 0), (11, .int .i64 7), (12, .sl 2 n 1 0 n), (16, .int .i64 d2.writes), (74, .fs more.length (opsV more)), (75, .int .i64 (more.length : Int)), (76, .int .i64 (i : Int))], d3.obs n ++ [.live ((List.range n).map fun j => V.fs 32 (bts (d2.sector j)))]⟩) more.length ⟨0, d2, hd2, ⟨hdn, rfl, rfl⟩, by omega, by simp, rfl⟩ ?_
                          rintro m st ⟨i, d3, hd3, ho3, hi, rfl, rfl⟩
                          intro K32 hK32
                          refine vwp_seq_k fun K33 hK33 => ?_
                          refine vwp_live [0, 7, 11, 12, 16, 74, 75, 76] ?_
                          try simp only [argSlots, pruneS, inN, eq_self, reduceIte, ite_true, Nat.reduceAdd, Nat.reduceBEq, Bool.or_true, Bool.true_or, Bool.or_false, Bool.false_or, if_true, if_false, Bool.false_eq_true]
                          refine vwp_region hT ?_
                          simp [-List.reduceReplicate, Dk.obs]
                          repeat refine ⟨by first | assumption | omega | (rw [spl_length (by simp; omega)]; simp; done) | (intros; omega), ?_⟩
                          refine hK33 _ ?_
                          try clear hK33 K33
                          refine vwp_seq_k fun K34 hK34 => ?_
                          refine vwp_cond (by first | rfl | (simp; rfl)) (fun h6 => ?_) (fun h6 => ?_)
                          · try (exfalso; simp at h6; done)
                            all_goals
                              try simp at h6
                              refine vwp_skip ?_
                              try simp only [thenQ, inBlk]
                              refine hK34 _ ?_
                              try clear hK34 K34
                              refine vwp_cut_k (fun st => ∃ d4 : Dk, d4.ok n ∧ d2.off d4 ∧ Gh ⟨Try.f5.ntmps, 0⟩ st ⟨[(0, .int .i64 (n : Int)), (7, .ptr 0 5 0), (11, .int .i64 7), (12, .sl 2 n 1 0 n), (16, .int .i64 d2.writes), (74, .fs more.length (opsV more)), (75, .int .i64 (more.length : Int)), (76, .int .i64 (i : Int))], d4.obs n ++ [.live ((List.range n).map fun j => V.fs 32 (bts (d2.sector j)))]⟩) (fun K35 hK35 => ?_) ?_
                              · refine vwp_block ?_
                                refine vwp_seq_k fun K36 hK36 => ?_
                                obtain ⟨x, hx⟩ : ∃ x, more[i]? = some x := ⟨_, List.getElem?_eq_getElem (by omega)⟩
                                have hxb := hb2 x (List.mem_of_getElem? hx)
                                have hxa := ha2 x (List.mem_of_getElem? hx)
                                have hdr := opsV_drop hx
                                refine vwp_live [0, 7, 11, 12, 16, 74, 75, 76] ?_
                                try simp only [argSlots, pruneS, inN, eq_self, reduceIte, ite_true, Nat.reduceAdd, Nat.reduceBEq, Bool.or_true, Bool.true_or, Bool.or_false, Bool.false_or, if_true, if_false, Bool.false_eq_true]
                                refine vwp_region hT ?_
                                simp [-List.reduceReplicate, Dk.obs, hdr, opsV_length]
                                repeat refine ⟨by first | assumption | omega | (rw [spl_length (by simp; omega)]; simp; done) | (intros; omega), ?_⟩
                                refine hK36 _ ?_
                                try clear hK36 K36
                                refine vwp_seq_k fun K37 hK37 => ?_
                                refine vwp_seq_k fun K38 hK38 => ?_
                                refine vwp_live [0, 7, 11, 12, 16, 18, 74, 75, 76] ?_
                                try simp only [argSlots, pruneS, inN, eq_self, reduceIte, ite_true, Nat.reduceAdd, Nat.reduceBEq, Bool.or_true, Bool.true_or, Bool.or_false, Bool.false_or, if_true, if_false, Bool.false_eq_true]
                                refine vwp_region hT ?_
                                simp [-List.reduceReplicate, Dk.obs]
                                repeat refine ⟨by first | assumption | omega | (rw [spl_length (by simp; omega)]; simp; done) | (intros; omega), ?_⟩
                                refine hK38 _ ?_
                                try clear hK38 K38
                                refine vwp_cond (by first | rfl | (simp; rfl)) (fun h7 => ?_) (fun h7 => ?_)
                                · try (exfalso; simp at h7; done)
                                  all_goals
                                    try simp at h7
                                    refine vwp_exit ?_
                                    simp only [inBlk, thenQ, if_true]
                                    refine hK35 _ ?_
                                    refine ⟨d3, hd3, ho3, ?_⟩
                                    refine Gh.to [0, 7, 11, 12, 16, 74, 75, 76] [0, 1, 2] _ (_) ?_ ?_ rfl ?_ ?_
                                    · simp
                                    · simp [Dk.obs]
                                    · simp [Dk.obs]
                                    · simp [Dk.obs]
                                · try (exfalso; simp at h7; done)
                                  all_goals
                                    try simp at h7
                                    have hn2 : x.do_ ≠ 2 := fun q => by simp [q] at h7
                                    have hn3 : x.do_ ≠ 3 := fun q => by simp [q] at h7
                                    refine vwp_skip ?_
                                    try simp only [thenQ, inBlk]
                                    refine hK37 _ ?_
                                    try clear hK37 K37
                                    refine vwp_seq_k fun K39 hK39 => ?_
                                    refine vwp_live [0, 7, 11, 12, 16, 18, 74, 75, 76] ?_
                                    try simp only [argSlots, pruneS, inN, eq_self, reduceIte, ite_true, Nat.reduceAdd, Nat.reduceBEq, Bool.or_true, Bool.true_or, Bool.or_false, Bool.false_or, if_true, if_false, Bool.false_eq_true]
                                    refine vwp_region hT ?_
                                    simp [-List.reduceReplicate, Dk.obs]
                                    refine vcall_by0 [0, 1] (do_spec d3 n hd3 x) (by simp) (by simp [Dk.obs, Dk.robs, Dk.two]) (by simp) (by simp [Dk.obs, Dk.robs, Dk.two]) ?_
                                    rintro r ob' ⟨rfl, rfl⟩
                                    simp [-List.reduceReplicate, Dk.obs]
                                    refine hK39 _ ?_
                                    have hd4 := Dk.step_ok (n := n) hd3 x hxa
                                    obtain ⟨ho4, h7⟩ := off_step (n := n) ho3 hn2 hn3
                                    generalize d3.step n x = q at hd4 ho4 h7 ⊢
                                    obtain ⟨e, d4⟩ := q
                                    dsimp only at hd4 ho4 h7 ⊢
                                    try clear hK39 K39
                                    refine vwp_seq_k fun K40 hK40 => ?_
                                    refine vwp_live [0, 7, 11, 12, 16, 18, 19, 74, 75, 76] ?_
                                    try simp only [argSlots, pruneS, inN, eq_self, reduceIte, ite_true, Nat.reduceAdd, Nat.reduceBEq, Bool.or_true, Bool.true_or, Bool.or_false, Bool.false_or, if_true, if_false, Bool.false_eq_true]
                                    refine vwp_region hT ?_
                                    simp [-List.reduceReplicate, Dk.obs]
                                    repeat refine ⟨by first | assumption | omega | (rw [spl_length (by simp; omega)]; simp; done) | (intros; omega), ?_⟩
                                    refine hK40 _ ?_
                                    try clear hK40 K40
                                    refine vwp_cond (by first | rfl | (simp; rfl)) (fun h8 => ?_) (fun h8 => ?_)
                                    · try (exfalso; simp at h8; done)
                                      all_goals
                                        try simp at h8
                                        have hbad : False := h8.1.2 (h7 h8.1.1 h8.2.1.1 h8.2.1.2 (by have := h8.2.2; omega))
                                        refine vwp_seq_k fun K41 hK41 => ?_
                                        exact hbad.elim
                                    · try (exfalso; simp at h8; done)
                                      all_goals
                                        try simp at h8
                                        refine vwp_skip ?_
                                        try simp only [thenQ, inBlk]
                                        refine hK35 _ ?_
                                        refine ⟨d4, hd4, ho4, ?_⟩
                                        refine Gh.to [0, 7, 11, 12, 16, 74, 75, 76] [0, 1, 2] _ (_) ?_ ?_ rfl ?_ ?_
                                        · simp
                                        · simp [Dk.obs]
                                        · simp [Dk.obs]
                                        · simp [Dk.obs]
                              · rintro st ⟨d4, hd4, ho4, hg⟩
                                refine vwp_gh hg ?_
                                clear hg
                                refine vwp_live [0, 7, 11, 12, 16, 74, 75, 76] ?_
                                try simp only [argSlots, pruneS, inN, eq_self, reduceIte, ite_true, Nat.reduceAdd, Nat.reduceBEq, Bool.or_true, Bool.true_or, Bool.or_false, Bool.false_or, if_true, if_false, Bool.false_eq_true]
                                refine vwp_region hT ?_
                                simp [-List.reduceReplicate, Dk.obs]
                                repeat refine ⟨by first | assumption | omega | (rw [spl_length (by simp; omega)]; simp; done) | (intros; omega), ?_⟩
                                refine hK32 _ ?_
                                refine ⟨_, Gh.to [0, 7, 11, 12, 16, 74, 75, 76] [0, 1, 2] [(0, .int .i64 (n : Int)), (7, .ptr 0 5 0), (11, .int .i64 7), (12, .sl 2 n 1 0 n), (16, .int .i64 d2.writes), (74, .fs more.length (opsV more)), (75, .int .i64 (more.length : Int)), (76, .int .i64 ((i + 1 : Nat) : Int))] (d4.obs n ++ [.live ((List.range n).map fun j => V.fs 32 (bts (d2.sector j)))]) (by simp) (by simp [Dk.obs]) rfl (by simp) (by simp; exact w64 (by omega) (by omega)), more.length - (i + 1), by omega, i + 1, d4, hd4, ho4, by omega, rfl, rfl⟩
                          · try (exfalso; simp at h6; done)
                            all_goals
                              try simp at h6
                              refine vwp_exit ?_
                              simp only [inBlk, thenQ, if_true]
                              refine hK30 _ ?_
                              try clear hK30 K30
                              refine vwp_seq_k fun K42 hK42 => ?_
                              refine vwp_seq_k fun K43 hK43 => ?_
                              refine vwp_live [0, 7, 11, 12, 16] ?_
                              try simp only [argSlots, pruneS, inN, eq_self, reduceIte, ite_true, Nat.reduceAdd, Nat.reduceBEq, Bool.or_true, Bool.true_or, Bool.or_false, Bool.false_or, if_true, if_false, Bool.false_eq_true]
                              refine vwp_region hT ?_
                              simp [-List.reduceReplicate, Dk.obs]
                              repeat refine ⟨by first | assumption | omega | (rw [spl_length (by simp; omega)]; simp; done) | (intros; omega), ?_⟩
                              refine hK43 _ ?_
                              try clear hK43 K43
                              refine vwp_block ?_
                              obtain rfl : i = more.length := by omega
                              refine vwp_gh (st' := ⟨[(0, .int .i64 (n : Int)), (7, .ptr 0 5 0), (11, .int .i64 7), (12, .sl 2 n 1 0 n), (16, .int .i64 d2.writes), (20, .int .i64 0)], d3.obs n ++ [.live ((List.range n).map fun j => V.fs 32 (bts (d2.sector j)))]⟩) ?_ ?_
                              · refine Gh.to [0, 7, 11, 12, 16, 20] [0, 1, 2] _ (_) ?_ ?_ rfl ?_ ?_
                                · simp
                                · simp [Dk.obs]
                                · simp [Dk.obs]
                                · simp [Dk.obs]
                              refine vwp_loop_k (fun m st => ∃ k : Nat, k ≤ n ∧ m = n - k ∧ st = ⟨[(0, .int .i64 (n : Int)), (7, .ptr 0 5 0), (11, .int .i64 7), (12, .sl 2 n 1 0 n), (16, .int .i64 d2.writes), (20, .int .i64 k)], d3.obs n ++ [.live ((List.range n).map fun j => V.fs 32 (bts (d2.sector j)))]⟩) n ⟨0, by omega, by simp, rfl⟩ ?_
                              rintro m st ⟨k, hk, rfl, rfl⟩
                              intro K44 hK44
                              refine vwp_seq_k fun K45 hK45 => ?_
                              refine vwp_seq_k fun K46 hK46 => ?_
                              refine vwp_live [0, 7, 11, 12, 16, 20] ?_
                              try simp only [argSlots, pruneS, inN, eq_self, reduceIte, ite_true, Nat.reduceAdd, Nat.reduceBEq, Bool.or_true, Bool.true_or, Bool.or_false, Bool.false_or, if_true, if_false, Bool.false_eq_true]
                              refine vwp_region hT ?_
                              simp [-List.reduceReplicate, Dk.obs]
                              repeat refine ⟨by first | assumption | omega | (rw [spl_length (by simp; omega)]; simp; done) | (intros; omega), ?_⟩
                              refine hK46 _ ?_
                              try clear hK46 K46
                              refine vwp_cond (by first | rfl | (simp; rfl)) (fun h9 => ?_) (fun h9 => ?_)
                              · try (exfalso; simp at h9; done)
                                all_goals
                                  try simp at h9
                                  refine vwp_skip ?_
                                  try simp only [thenQ, inBlk]
                                  refine hK45 _ ?_
                                  try clear hK45 K45
                                  refine vwp_seq_k fun K47 hK47 => ?_
                                  refine vwp_block ?_
                                  refine vwp_seq_k fun K48 hK48 => ?_
                                  have hsk : (d3.sector k).length = 32 := sector_length (a := k) hd3 (by omega) (by omega)
                                  have htk : List.take 32 (List.map (V.int .u8) (d3.sector k)) = bts (d3.sector k) := List.take_of_length_le (by simp [hsk])
                                  have hos := off_sector ho3 k
                                  have hsk2 : (d2.sector k).length = 32 := by rw [← hos]; exact hsk
                                  refine vwp_live [0, 7, 11, 12, 16, 20] ?_
                                  try simp only [argSlots, pruneS, inN, eq_self, reduceIte, ite_true, Nat.reduceAdd, Nat.reduceBEq, Bool.or_true, Bool.true_or, Bool.or_false, Bool.false_or, if_true, if_false, Bool.false_eq_true]
                                  refine vwp_region hT ?_
                                  simp [-List.reduceReplicate, Dk.obs]
                                  refine vcall_by0 [0, 1] (read_spec d3 n hd3 k) (by simp) (by simp [Dk.obs, Dk.robs, Dk.two]) (by simp) (by simp [Dk.obs, Dk.robs, Dk.two]) ?_
                                  intro r ob' hq
                                  rw [if_pos (by omega)] at hq
                                  obtain ⟨rfl, rfl⟩ := hq
                                  simp [-List.reduceReplicate, Dk.obs]
                                  repeat refine ⟨by first | assumption | omega | (rw [spl_length (by simp; omega)]; simp; done) | (intros; omega), ?_⟩
                                  refine hK48 _ ?_
                                  try clear hK48 K48
                                  refine vwp_seq_k fun K49 hK49 => ?_
                                  have hrk : (List.range n)[k]? = some k := List.getElem?_range (by omega)
                                  have hgk : (List.map (fun j => V.fs 32 (bts (d2.sector j))) (List.range n)).getD k V.junk = V.fs 32 (bts (d2.sector k)) := by
                                    rw [List.getD_eq_getElem?_getD, List.getElem?_map, List.getElem?_range (by omega)]
                                    rfl
                                  refine vwp_live [0, 7, 11, 12, 16, 20, 21] ?_
                                  try simp only [argSlots, pruneS, inN, eq_self, reduceIte, ite_true, Nat.reduceAdd, Nat.reduceBEq, Bool.or_true, Bool.true_or, Bool.or_false, Bool.false_or, if_true, if_false, Bool.false_eq_true]
                                  refine vwp_region hT ?_
                                  simp [-List.reduceReplicate, Dk.obs, hgk, hrk]
                                  repeat refine ⟨by omega, ?_⟩
                                  refine vcall_by [] true (same_spec (d3.sector k) (d2.sector k) (by omega) (by omega)) (by simp) (by simp) (by simp [hsk, hsk2, htk]) (by simp [hsk]) ?_
                                  rintro r ob' ⟨rfl, rfl⟩
                                  simp [-List.reduceReplicate, Dk.obs, hgk, hrk]
                                  repeat refine ⟨by first | assumption | omega | (rw [spl_length (by simp; omega)]; simp; done) | (intros; omega), ?_⟩
                                  refine hK49 _ ?_
                                  try clear hK49 K49
                                  refine vwp_cond (by first | rfl | (simp; rfl)) (fun h10 => ?_) (fun h10 => ?_)
                                  · try (exfalso; simp at h10; done)
                                    all_goals
                                      try simp at h10
                                      have hbad : False := h10 hos
                                      refine vwp_seq_k fun K50 hK50 => ?_
                                      exact hbad.elim
                                  · try (exfalso; simp at h10; done)
                                    all_goals
                                      try simp at h10
                                      refine vwp_skip ?_
                                      try simp only [thenQ, inBlk]
                                      refine hK47 _ ?_
                                      try clear hK47 K47
                                      refine vwp_live [0, 7, 11, 12, 16, 20] ?_
                                      try simp only [argSlots, pruneS, inN, eq_self, reduceIte, ite_true, Nat.reduceAdd, Nat.reduceBEq, Bool.or_true, Bool.true_or, Bool.or_false, Bool.false_or, if_true, if_false, Bool.false_eq_true]
                                      refine vwp_region hT ?_
                                      simp [-List.reduceReplicate, Dk.obs]
                                      repeat refine ⟨by first | assumption | omega | (rw [spl_length (by simp; omega)]; simp; done) | (intros; omega), ?_⟩
                                      refine hK44 _ ?_
                                      refine ⟨_, Gh.to [0, 7, 11, 12, 16, 20] [0, 1, 2] [(0, .int .i64 (n : Int)), (7, .ptr 0 5 0), (11, .int .i64 7), (12, .sl 2 n 1 0 n), (16, .int .i64 d2.writes), (20, .int .i64 ((k + 1 : Nat) : Int))] (d3.obs n ++ [.live ((List.range n).map fun j => V.fs 32 (bts (d2.sector j)))]) (by simp) (by simp [Dk.obs]) rfl (by simp) (by simp; exact w64 (by omega) (by omega)), n - (k + 1), by omega, k + 1, by omega, rfl, rfl⟩
                              · try (exfalso; simp at h9; done)
                                all_goals
                                  try simp at h9
                                  refine vwp_exit ?_
                                  simp only [inBlk, thenQ, if_true]
                                  refine hK42 _ ?_
                                  try clear hK42 K42
                                  refine vwp_seq_k fun K51 hK51 => ?_
                                  refine vwp_live [7, 11, 16] ?_
                                  try simp only [argSlots, pruneS, inN, eq_self, reduceIte, ite_true, Nat.reduceAdd, Nat.reduceBEq, Bool.or_true, Bool.true_or, Bool.or_false, Bool.false_or, if_true, if_false, Bool.false_eq_true]
                                  refine vwp_region hT ?_
                                  simp [-List.reduceReplicate, Dk.obs]
                                  refine vcall_by0 [0, 1] (crash_spec d3 n) (by simp) (by simp [Dk.obs, Dk.robs, Dk.two]) (by simp) (by simp [Dk.obs, Dk.robs, Dk.two]) ?_
                                  rintro r ob' ⟨rfl, rfl⟩
                                  simp [-List.reduceReplicate, Dk.obs]
                                  repeat refine ⟨by first | assumption | omega | (rw [spl_length (by simp; omega)]; simp; done) | (intros; omega), ?_⟩
                                  refine hK51 _ ?_
                                  try clear hK51 K51
                                  refine vwp_seq_k fun K52 hK52 => ?_
                                  have h00 := off_last hd3
                                  have ho4 : d3.crashed.writes = d2.writes := ho3.writes
                                  have hd4 := Dk.crashed_ok hd3
                                  generalize d3.crashed = d4 at h00 ho4 hd4 ⊢
                                  refine vwp_live [7, 11, 16] ?_
                                  try simp only [argSlots, pruneS, inN, eq_self, reduceIte, ite_true, Nat.reduceAdd, Nat.reduceBEq, Bool.or_true, Bool.true_or, Bool.or_false, Bool.false_or, if_true, if_false, Bool.false_eq_true]
                                  refine vwp_region hT ?_
                                  simp [-List.reduceReplicate, Dk.obs, ho4, h00]
                                  refine vcall_by0 [0, 1] (writes_spec d4 n) (by simp) (by simp [Dk.obs, ho4]) (by simp) (by simp [Dk.obs, ho4]) ?_
                                  rintro r ob' ⟨rfl, rfl⟩
                                  simp [-List.reduceReplicate, Dk.obs, ho4, h00]
                                  refine vcall_by0 [0, 1] (write_nil_spec d4 n hd4 0) (by simp) (by simp [Dk.obs, ho4]) (by simp) (by simp [Dk.obs, ho4]) ?_
                                  rintro r ob' ⟨rfl, rfl⟩
                                  simp [-List.reduceReplicate, Dk.obs, ho4, h00]
                                  repeat refine ⟨by first | assumption | omega | (rw [spl_length (by simp; omega)]; simp; done) | (intros; omega), ?_⟩
                                  refine hK52 _ ?_
                                  try clear hK52 K52
                                  refine vwp_ret ?_
                                  try simp only [thenQ, inBlk]
                                  refine hR _ _ ?_
                                  refine ret_only [6] [] [] (by simp) (by simp) rfl (by simp) (r := .bool true) (by simp [Try.f5]) rfl
            · refine vwp_live [0, 1, 2] ?_
              try simp only [argSlots, pruneS, inN, eq_self, reduceIte, ite_true, Nat.reduceAdd, Nat.reduceBEq, Bool.or_true, Bool.true_or, Bool.or_false, Bool.false_or, if_true, if_false, Bool.false_eq_true]
              refine vwp_region hT ?_
              simp [-List.reduceReplicate, Dk.obs]
              refine vcall_by0 [] (new_spec s) (by simp) (by simp [Dk.obs, Dk.robs, Dk.two]) (by simp) (by simp [Dk.obs, Dk.robs, Dk.two]) ?_
              intro r ob' hq
              rw [if_neg hs] at hq
              obtain ⟨rfl, rfl⟩ := hq
              simp [-List.reduceReplicate, Dk.obs]
              repeat refine ⟨by first | assumption | omega | (rw [spl_length (by simp; omega)]; simp; done) | (intros; omega), ?_⟩
              refine hK8 _ ?_
              try clear hK8 K8
              refine vwp_seq_k fun K53 hK53 => ?_
              refine vwp_seq_k fun K54 hK54 => ?_
              refine vwp_live [0, 1, 2, 7] ?_
              try simp only [argSlots, pruneS, inN, eq_self, reduceIte, ite_true, Nat.reduceAdd, Nat.reduceBEq, Bool.or_true, Bool.true_or, Bool.or_false, Bool.false_or, if_true, if_false, Bool.false_eq_true]
              refine vwp_region hT ?_
              simp [-List.reduceReplicate, Dk.obs]
              repeat refine ⟨by first | assumption | omega | (rw [spl_length (by simp; omega)]; simp; done) | (intros; omega), ?_⟩
              refine hK54 _ ?_
              try clear hK54 K54
              refine vwp_cond (by first | rfl | (simp; rfl)) (fun h11 => ?_) (fun h11 => ?_)
              · try (exfalso; simp at h11; done)
                all_goals
                  try simp at h11
                  refine vwp_seq_k fun K55 hK55 => ?_
                  refine vwp_live [] ?_
                  try simp only [argSlots, pruneS, inN, eq_self, reduceIte, ite_true, Nat.reduceAdd, Nat.reduceBEq, Bool.or_true, Bool.true_or, Bool.or_false, Bool.false_or, if_true, if_false, Bool.false_eq_true]
                  refine vwp_region hT ?_
                  simp [-List.reduceReplicate, Dk.obs]
                  repeat refine ⟨by first | assumption | omega | (rw [spl_length (by simp; omega)]; simp; done) | (intros; omega), ?_⟩
                  refine hK55 _ ?_
                  try clear hK55 K55
                  refine vwp_ret ?_
                  try simp only [thenQ, inBlk]
                  refine hR _ _ ?_
                  refine ret_only [6] [] [] (by simp) (by simp) rfl (by simp) (r := .bool true) (by simp [Try.f5]) rfl
              · try (exfalso; simp at h11; done)
                all_goals
                  try simp at h11
                  refine vwp_skip ?_
                  try simp only [thenQ, inBlk]
                  refine hK53 _ ?_
                  try clear hK53 K53
                  refine vwp_seq_k fun K56 hK56 => ?_
                  refine vwp_seq_k fun K57 hK57 => ?_
                  skip
end Go.Proofs.Ytibhpkolbffdaaa
