/- DiskDoes: what it answers. -/
import Derived.Test.YtibhpkolbffdaaaLaw04b
import Derived.Test.YtibhpkolbffdaaaDisk3
import Derived.Test.YtibhpkolbffdaaaSame
namespace Go.Proofs.Ytibhpkolbffdaaa
open Go Go.VX Go.RowKit
set_option linter.unusedVariables false
set_option linter.unusedSimpArgs false
set_option maxHeartbeats 20000000
set_option maxRecDepth 100000

theorem same_nil : VC P 21 [.nils, .nils] [] (fun r ob' => r = .bool true ∧ ob' = []) := by
  refine (same_spec [] [] (by simp) (by simp)).weak fun E vals h => ?_
  obtain ⟨u1, r1, rfl, _, h1, u2, r2, rfl, _, h2, h3⟩ := h
  exact ⟨u1, _, rfl, trivial, VRep.nil_fs h1, u2, _, rfl, trivial, VRep.nil_fs h2, h3⟩
theorem sector_length {d : Dk} {n : Nat} (hd : d.ok n) {a : Int} (h : a < n) (h0 : 0 ≤ a) : (d.sector a.toNat).length = 32 := by
  have := hd.len
  simp [Dk.sector]
  omega
def Dk.two (d : Dk) (n : Nat) : List Ob := [.live [.sl 1 d.B.length 32 0 n, .bool d.down, .int .i64 d.fuse, .int .i64 d.torn, .int .i64 d.writes], .live (bts d.B), .live [.sl 3 d.B.length 1 0 d.B.length, .bool d.down, .int .i64 d.fuse, .int .i64 d.torn, .int .i64 d.writes], .live (bts d.B)]
theorem does_spec (s : Int) (l : List DOp) (hl : l.length ≤ 140737488355328) (hb : ∀ x ∈ l, x.b.length ≤ 140737488355328) (ha : ∀ x ∈ l, x.a ≤ 9223372036854775807) :
    VC P 3 [.int .i64 s, .fs l.length (opsV l)] [] (fun r ob' => r = .bool true) := by
  refine VC_of_vwp_k ent_3 Try.func3 rfl (by simp [Try.ntmps3]) fun R hR => ?_
  refine vwp_seq_k fun K1 hK1 => ?_
  refine vwp_live [0, 1] ?_
  try simp only [argSlots, pruneS, inN, eq_self, reduceIte, ite_true, Nat.reduceAdd, Nat.reduceBEq, Bool.or_true, Bool.true_or, Bool.or_false, Bool.false_or, if_true, if_false, Bool.false_eq_true]
  refine vwp_region hT ?_
  simp [-List.reduceReplicate, Dk.obs, Dk.robs, Dk.two, Try.ntmps3]
  repeat refine ⟨by first | assumption | omega | (rw [spl_length (by simp; omega)]; simp; done) | (intros; omega), ?_⟩
  refine hK1 _ ?_
  try clear hK1 K1
  refine vwp_seq_k fun K2 hK2 => ?_
  refine vwp_seq_k fun K3 hK3 => ?_
  refine vwp_live [0, 1] ?_
  try simp only [argSlots, pruneS, inN, eq_self, reduceIte, ite_true, Nat.reduceAdd, Nat.reduceBEq, Bool.or_true, Bool.true_or, Bool.or_false, Bool.false_or, if_true, if_false, Bool.false_eq_true]
  refine vwp_region hT ?_
  simp [-List.reduceReplicate, Dk.obs, Dk.robs, Dk.two]
  refine vcall_by0 [] (awake_spec) (by simp) (by simp [Dk.obs, Dk.robs, Dk.two]) (by simp) (by simp [Dk.obs, Dk.robs, Dk.two]) ?_
  rintro r ob' ⟨rfl, rfl⟩
  simp [-List.reduceReplicate, Dk.obs, Dk.robs, Dk.two]
  repeat refine ⟨by first | assumption | omega | (rw [spl_length (by simp; omega)]; simp; done) | (intros; omega), ?_⟩
  refine hK3 _ ?_
  try clear hK3 K3
  refine vwp_cond (by simp; rfl) (fun h1 => ?_) (fun h1 => ?_)
  · try (exfalso; simp at h1; done)
    all_goals
      try simp at h1
      refine vwp_seq_k fun K4 hK4 => ?_
      refine vwp_live [] ?_
      try simp only [argSlots, pruneS, inN, eq_self, reduceIte, ite_true, Nat.reduceAdd, Nat.reduceBEq, Bool.or_true, Bool.true_or, Bool.or_false, Bool.false_or, if_true, if_false, Bool.false_eq_true]
      refine vwp_region hT ?_
      simp [-List.reduceReplicate, Dk.obs, Dk.robs, Dk.two]
      repeat refine ⟨by first | assumption | omega | (rw [spl_length (by simp; omega)]; simp; done) | (intros; omega), ?_⟩
      refine hK4 _ ?_
      try clear hK4 K4
      refine vwp_ret ?_
      try simp only [thenQ, inBlk]
      refine hR _ _ ?_
      refine ret_only [4] [] [] (by simp) (by simp) rfl (by simp) (r := .bool true) (by simp [Try.f3]) rfl
  · try (exfalso; simp at h1; done)
    all_goals
      try simp at h1
      refine vwp_skip ?_
      try simp only [thenQ, inBlk]
      refine hK2 _ ?_
      try clear hK2 K2
      refine vwp_seq_k fun K5 hK5 => ?_
      refine vwp_seq_k fun K6 hK6 => ?_
      refine vwp_live [0, 1] ?_
      try simp only [argSlots, pruneS, inN, eq_self, reduceIte, ite_true, Nat.reduceAdd, Nat.reduceBEq, Bool.or_true, Bool.true_or, Bool.or_false, Bool.false_or, if_true, if_false, Bool.false_eq_true]
      refine vwp_region hT ?_
      simp [-List.reduceReplicate, Dk.obs, Dk.robs, Dk.two]
      refine vcall_by0 [] (large_spec l hl hb) (by simp) (by simp [Dk.obs, Dk.robs, Dk.two]) (by simp) (by simp [Dk.obs, Dk.robs, Dk.two]) ?_
      rintro r ob' ⟨⟨v, rfl, hv⟩, rfl⟩
      simp [-List.reduceReplicate, Dk.obs, Dk.robs, Dk.two]
      repeat refine ⟨by first | assumption | omega | (rw [spl_length (by simp; omega)]; simp; done) | (intros; omega), ?_⟩
      refine hK6 _ ?_
      try clear hK6 K6
      refine vwp_cond (by simp; rfl) (fun h2 => ?_) (fun h2 => ?_)
      · try (exfalso; simp at h2; done)
        all_goals
          try simp at h2
          refine vwp_seq_k fun K7 hK7 => ?_
          refine vwp_live [] ?_
          try simp only [argSlots, pruneS, inN, eq_self, reduceIte, ite_true, Nat.reduceAdd, Nat.reduceBEq, Bool.or_true, Bool.true_or, Bool.or_false, Bool.false_or, if_true, if_false, Bool.false_eq_true]
          refine vwp_region hT ?_
          simp [-List.reduceReplicate, Dk.obs, Dk.robs, Dk.two]
          repeat refine ⟨by first | assumption | omega | (rw [spl_length (by simp; omega)]; simp; done) | (intros; omega), ?_⟩
          refine hK7 _ ?_
          try clear hK7 K7
          refine vwp_ret ?_
          try simp only [thenQ, inBlk]
          refine hR _ _ ?_
          refine ret_only [4] [] [] (by simp) (by simp) rfl (by simp) (r := .bool true) (by simp [Try.f3]) rfl
      · try (exfalso; simp at h2; done)
        all_goals
          try simp at h2
          refine vwp_skip ?_
          try simp only [thenQ, inBlk]
          refine hK5 _ ?_
          try clear hK5 K5
          refine vwp_seq_k fun K8 hK8 => ?_
          by_cases hs : 2 ≤ s ∧ s ≤ 4096
          · have hs64 : s ≤ 64 := by
              by_cases q : 64 < s
              · have := h2.2 q
                omega
              · omega
            obtain ⟨n, rfl⟩ : ∃ n : Nat, s = n := ⟨s.toNat, by omega⟩
            have o0 : (Dk.new n).ok n := Dk.new_ok (by omega) (by omega)
            have hsm := hv h2.1
            refine vwp_live [0, 1] ?_
            try simp only [argSlots, pruneS, inN, eq_self, reduceIte, ite_true, Nat.reduceAdd, Nat.reduceBEq, Bool.or_true, Bool.true_or, Bool.or_false, Bool.false_or, if_true, if_false, Bool.false_eq_true]
            refine vwp_region hT ?_
            simp [-List.reduceReplicate, Dk.obs, Dk.robs, Dk.two]
            refine vcall_by0 [] (new_spec n) (by simp) (by simp [Dk.obs, Dk.robs, Dk.two]) (by simp) (by simp [Dk.obs, Dk.robs, Dk.two]) ?_
            intro r ob' hq
            rw [if_pos hs] at hq
            obtain ⟨rfl, rfl⟩ := hq
            simp [-List.reduceReplicate, Dk.obs, Dk.robs, Dk.two]
            repeat refine ⟨by first | assumption | omega | (rw [spl_length (by simp; omega)]; simp; done) | (intros; omega), ?_⟩
            refine hK8 _ ?_
            try clear hK8 K8
            refine vwp_seq_k fun K9 hK9 => ?_
            refine vwp_live [0, 1, 5, 6] ?_
            try simp only [argSlots, pruneS, inN, eq_self, reduceIte, ite_true, Nat.reduceAdd, Nat.reduceBEq, Bool.or_true, Bool.true_or, Bool.or_false, Bool.false_or, if_true, if_false, Bool.false_eq_true]
            refine vwp_region hT ?_
            simp [-List.reduceReplicate, Dk.obs, Dk.robs, Dk.two]
            refine vcall_by0 [] (rnew_spec n) (by simp) (by simp [Dk.obs, Dk.robs, Dk.two]) (by simp) (by simp [Dk.obs, Dk.robs, Dk.two]) ?_
            intro r ob' hq
            rw [if_pos hs] at hq
            obtain ⟨rfl, rfl⟩ := hq
            simp [-List.reduceReplicate, Dk.obs, Dk.robs, Dk.two]
            repeat refine ⟨by first | assumption | omega | (rw [spl_length (by simp; omega)]; simp; done) | (intros; omega), ?_⟩
            refine hK9 _ ?_
            try clear hK9 K9
            refine vwp_seq_k fun K10 hK10 => ?_
            refine vwp_seq_k fun K11 hK11 => ?_
            refine vwp_live [0, 1, 5, 6, 7, 8] ?_
            try simp only [argSlots, pruneS, inN, eq_self, reduceIte, ite_true, Nat.reduceAdd, Nat.reduceBEq, Bool.or_true, Bool.true_or, Bool.or_false, Bool.false_or, if_true, if_false, Bool.false_eq_true]
            refine vwp_region hT ?_
            simp [-List.reduceReplicate, Dk.obs, Dk.robs, Dk.two]
            repeat refine ⟨by first | assumption | omega | (rw [spl_length (by simp; omega)]; simp; done) | (intros; omega), ?_⟩
            refine hK11 _ ?_
            try clear hK11 K11
            refine vwp_cond (by simp; rfl) (fun h3 => ?_) (fun h3 => ?_)
            · try (exfalso; simp at h3; done)
              all_goals
                try simp at h3
                refine vwp_seq_k fun K12 hK12 => ?_
                refine vwp_live [] ?_
                try simp only [argSlots, pruneS, inN, eq_self, reduceIte, ite_true, Nat.reduceAdd, Nat.reduceBEq, Bool.or_true, Bool.true_or, Bool.or_false, Bool.false_or, if_true, if_false, Bool.false_eq_true]
                refine vwp_region hT ?_
                simp [-List.reduceReplicate, Dk.obs, Dk.robs, Dk.two]
                repeat refine ⟨by first | assumption | omega | (rw [spl_length (by simp; omega)]; simp; done) | (intros; omega), ?_⟩
                refine hK12 _ ?_
                try clear hK12 K12
                refine vwp_ret ?_
                try simp only [thenQ, inBlk]
                refine hR _ _ ?_
                refine ret_only [4] [] [] (by simp) (by simp) rfl (by simp) (r := .bool true) (by simp [Try.f3]) rfl
            · try (exfalso; simp at h3; done)
              all_goals
                try simp at h3
                refine vwp_skip ?_
                try simp only [thenQ, inBlk]
                refine hK10 _ ?_
                try clear hK10 K10
                refine vwp_seq_k fun K13 hK13 => ?_
                refine vwp_seq_k fun K14 hK14 => ?_
                refine vwp_live [0, 1, 5, 7] ?_
                try simp only [argSlots, pruneS, inN, eq_self, reduceIte, ite_true, Nat.reduceAdd, Nat.reduceBEq, Bool.or_true, Bool.true_or, Bool.or_false, Bool.false_or, if_true, if_false, Bool.false_eq_true]
                refine vwp_region hT ?_
                simp [-List.reduceReplicate, Dk.obs, Dk.robs, Dk.two]
                repeat refine ⟨by first | assumption | omega | (rw [spl_length (by simp; omega)]; simp; done) | (intros; omega), ?_⟩
                refine hK14 _ ?_
                try clear hK14 K14
                refine vwp_block ?_
                refine vwp_gh (Gh.to [0, 1, 5, 7, 9] [0, 1, 2, 3] [(0, .int .i64 (n : Int)), (1, .fs l.length (opsV l)), (5, .ptr 0 5 0), (7, .ptr 2 5 0), (9, .int .i64 0)] ((Dk.new n).two n) (by simp) (by simp [Dk.obs, Dk.robs, Dk.two]) rfl (by simp) (by simp)) ?_
                refine vwp_loop_k (fun m st => ∃ (i : Nat) (d : Dk), d.ok n ∧ i ≤ l.length ∧ m = l.length - i ∧ st = ⟨[(0, .int .i64 (n : Int)), (1, .fs l.length (opsV l)), (5, .ptr 0 5 0), (7, .ptr 2 5 0), (9, .int .i64 i)], d.two n⟩) l.length ⟨0, _, o0, by omega, by simp, rfl⟩ ?_
                rintro m st ⟨i, d, hd, hi, rfl, rfl⟩
                intro K15 hK15
                refine vwp_seq_k fun K16 hK16 => ?_
                refine vwp_seq_k fun K17 hK17 => ?_
                refine vwp_live [0, 1, 5, 7, 9] ?_
                try simp only [argSlots, pruneS, inN, eq_self, reduceIte, ite_true, Nat.reduceAdd, Nat.reduceBEq, Bool.or_true, Bool.true_or, Bool.or_false, Bool.false_or, if_true, if_false, Bool.false_eq_true]
                refine vwp_region hT ?_
                simp [-List.reduceReplicate, Dk.obs, Dk.robs, Dk.two]
                repeat refine ⟨by first | assumption | omega | (rw [spl_length (by simp; omega)]; simp; done) | (intros; omega), ?_⟩
                refine hK17 _ ?_
                try clear hK17 K17
                refine vwp_cond (by simp; rfl) (fun h4 => ?_) (fun h4 => ?_)
                · try (exfalso; simp at h4; done)
                  all_goals
                    try simp at h4
                    refine vwp_skip ?_
                    try simp only [thenQ, inBlk]
                    refine hK16 _ ?_
                    try clear hK16 K16
                    refine vwp_seq_k fun K18 hK18 => ?_
                    refine vwp_block ?_
                    refine vwp_seq_k fun K19 hK19 => ?_
                    obtain ⟨x, hx⟩ : ∃ x, l[i]? = some x := ⟨_, List.getElem?_eq_getElem (by omega)⟩
                    have hxb := hb x (List.mem_of_getElem? hx)
                    have hxa := ha x (List.mem_of_getElem? hx)
                    have hdr := opsV_drop hx
                    refine vwp_live [0, 1, 5, 7, 9] ?_
                    try simp only [argSlots, pruneS, inN, eq_self, reduceIte, ite_true, Nat.reduceAdd, Nat.reduceBEq, Bool.or_true, Bool.true_or, Bool.or_false, Bool.false_or, if_true, if_false, Bool.false_eq_true]
                    refine vwp_region hT ?_
                    simp [-List.reduceReplicate, Dk.obs, Dk.robs, Dk.two, hdr, opsV_length]
                    repeat refine ⟨by first | assumption | omega | (rw [spl_length (by simp; omega)]; simp; done) | (intros; omega), ?_⟩
                    refine hK19 _ ?_
                    try clear hK19 K19
                    refine vwp_seq_k fun K20 hK20 => ?_
                    refine vwp_live [0, 1, 5, 7, 9, 10] ?_
                    try simp only [argSlots, pruneS, inN, eq_self, reduceIte, ite_true, Nat.reduceAdd, Nat.reduceBEq, Bool.or_true, Bool.true_or, Bool.or_false, Bool.false_or, if_true, if_false, Bool.false_eq_true]
                    refine vwp_region hT ?_
                    simp [-List.reduceReplicate, Dk.obs, Dk.robs, Dk.two]
                    refine vcall_by0 [0, 1] (do_spec d n hd x) (by simp) (by simp [Dk.obs, Dk.robs, Dk.two]) (by simp) (by simp [Dk.obs, Dk.robs, Dk.two]) ?_
                    rintro r ob' ⟨rfl, rfl⟩
                    simp [-List.reduceReplicate, Dk.obs, Dk.robs, Dk.two]
                    repeat refine ⟨by first | assumption | omega | (rw [spl_length (by simp; omega)]; simp; done) | (intros; omega), ?_⟩
                    refine hK20 _ ?_
                    try clear hK20 K20
                    refine vwp_seq_k fun K21 hK21 => ?_
                    refine vwp_live [0, 1, 5, 7, 9, 10, 11] ?_
                    try simp only [argSlots, pruneS, inN, eq_self, reduceIte, ite_true, Nat.reduceAdd, Nat.reduceBEq, Bool.or_true, Bool.true_or, Bool.or_false, Bool.false_or, if_true, if_false, Bool.false_eq_true]
                    refine vwp_region hT ?_
                    simp [-List.reduceReplicate, Dk.obs, Dk.robs, Dk.two]
                    repeat refine ⟨by first | assumption | omega | (rw [spl_length (by simp; omega)]; simp; done) | (intros; omega), ?_⟩
                    refine hK21 _ ?_
                    try clear hK21 K21
                    refine vwp_cut_k (fun st => Gh ⟨Try.f3.ntmps, 0⟩ st ⟨[(0, .int .i64 (n : Int)), (1, .fs l.length (opsV l)), (5, .ptr 0 5 0), (7, .ptr 2 5 0), (9, .int .i64 (i : Int)), (10, .ptr 4 4 0), (11, .int .i64 (d.step n x).1), (12, .int .i64 (d.step n x).1)], (d.step n x).2.two n ++ [.live x.cells]⟩) (fun K22 hK22 => ?_) ?_
                    · refine vwp_seq_k fun K23 hK23 => ?_
                      refine vwp_live [0, 1, 5, 7, 9, 10, 11, 12] ?_
                      try simp only [argSlots, pruneS, inN, eq_self, reduceIte, ite_true, Nat.reduceAdd, Nat.reduceBEq, Bool.or_true, Bool.true_or, Bool.or_false, Bool.false_or, if_true, if_false, Bool.false_eq_true]
                      refine vwp_region hT ?_
                      simp [-List.reduceReplicate, Dk.obs, Dk.robs, Dk.two]
                      repeat refine ⟨by first | assumption | omega | (rw [spl_length (by simp; omega)]; simp; done) | (intros; omega), ?_⟩
                      refine hK23 _ ?_
                      try clear hK23 K23
                      refine vwp_block ?_
                      refine vwp_seq_k fun K24 hK24 => ?_
                      refine vwp_live [0, 1, 5, 7, 9, 10, 11, 12, 70] ?_
                      try simp only [argSlots, pruneS, inN, eq_self, reduceIte, ite_true, Nat.reduceAdd, Nat.reduceBEq, Bool.or_true, Bool.true_or, Bool.or_false, Bool.false_or, if_true, if_false, Bool.false_eq_true]
                      refine vwp_region hT ?_
                      simp [-List.reduceReplicate, Dk.obs, Dk.robs, Dk.two]
                      repeat refine ⟨by first | assumption | omega | (rw [spl_length (by simp; omega)]; simp; done) | (intros; omega), ?_⟩
                      refine hK24 _ ?_
                      try clear hK24 K24
                      refine vwp_cond (by simp; rfl) (fun h5 => ?_) (fun h5 => ?_)
                      · try (exfalso; simp at h5; done)
                        all_goals
                          try simp at h5
                          refine vwp_live [0, 1, 5, 7, 9, 10, 11] ?_
                          try simp only [argSlots, pruneS, inN, eq_self, reduceIte, ite_true, Nat.reduceAdd, Nat.reduceBEq, Bool.or_true, Bool.true_or, Bool.or_false, Bool.false_or, if_true, if_false, Bool.false_eq_true]
                          refine vwp_region hT ?_
                          simp [-List.reduceReplicate, Dk.obs, Dk.robs, Dk.two]
                          refine vcall_by0 [2, 3] (rwrite_spec d n hd x.a x.b) (by simp) (by simp [Dk.obs, Dk.robs, Dk.two]) (by simp) (by simp [Dk.obs, Dk.robs, Dk.two]) ?_
                          rintro r ob' ⟨rfl, rfl⟩
                          simp [-List.reduceReplicate, Dk.obs, Dk.robs, Dk.two]
                          repeat refine ⟨by first | assumption | omega | (rw [spl_length (by simp; omega)]; simp; done) | (intros; omega), ?_⟩
                          refine hK22 _ ?_
                          have hw : d.step n x = d.write n x.a x.b := by unfold Dk.step; simp [*]
                          rw [hw]
                          refine Gh.to [0, 1, 5, 7, 9, 10, 11, 12] [0, 1, 2, 3, 4] _ _ ?_ ?_ rfl ?_ ?_
                          · simp
                          · simp [Dk.obs, Dk.robs, Dk.two]
                          · simp
                          · simp [Dk.obs, Dk.robs, Dk.two]
                      · try (exfalso; simp at h5; done)
                        all_goals
                          try simp at h5
                          refine vwp_seq_k fun K25 hK25 => ?_
                          refine vwp_live [0, 1, 5, 7, 9, 10, 11, 12, 70] ?_
                          try simp only [argSlots, pruneS, inN, eq_self, reduceIte, ite_true, Nat.reduceAdd, Nat.reduceBEq, Bool.or_true, Bool.true_or, Bool.or_false, Bool.false_or, if_true, if_false, Bool.false_eq_true]
                          refine vwp_region hT ?_
                          simp [-List.reduceReplicate, Dk.obs, Dk.robs, Dk.two]
                          repeat refine ⟨by first | assumption | omega | (rw [spl_length (by simp; omega)]; simp; done) | (intros; omega), ?_⟩
                          refine hK25 _ ?_
                          try clear hK25 K25
                          refine vwp_cond (by simp; rfl) (fun h6 => ?_) (fun h6 => ?_)
                          · try (exfalso; simp at h6; done)
                            all_goals
                              try simp at h6
                              refine vwp_live [0, 1, 5, 7, 9, 10, 11, 12] ?_
                              try simp only [argSlots, pruneS, inN, eq_self, reduceIte, ite_true, Nat.reduceAdd, Nat.reduceBEq, Bool.or_true, Bool.true_or, Bool.or_false, Bool.false_or, if_true, if_false, Bool.false_eq_true]
                              refine vwp_region hT ?_
                              simp [-List.reduceReplicate, Dk.obs, Dk.robs, Dk.two]
                              refine vcall_by0 [2, 3] (rfuse_spec d x.a x.c) (by simp) (by simp [Dk.obs, Dk.robs, Dk.two]) (by simp) (by simp [Dk.obs, Dk.robs, Dk.two]) ?_
                              rintro r ob' ⟨rfl, rfl⟩
                              simp [-List.reduceReplicate, Dk.obs, Dk.robs, Dk.two]
                              repeat refine ⟨by first | assumption | omega | (rw [spl_length (by simp; omega)]; simp; done) | (intros; omega), ?_⟩
                              refine hK22 _ ?_
                              have hw : d.step n x = (0, d.fused x.a x.c) := by unfold Dk.step; simp [*]
                              rw [hw]
                              refine Gh.to [0, 1, 5, 7, 9, 10, 11, 12] [0, 1, 2, 3, 4] _ _ ?_ ?_ rfl ?_ ?_
                              · simp
                              · simp [Dk.obs, Dk.robs, Dk.two]
                              · simp
                              · simp [Dk.obs, Dk.robs, Dk.two]
                          · try (exfalso; simp at h6; done)
                            all_goals
                              try simp at h6
                              refine vwp_seq_k fun K26 hK26 => ?_
                              refine vwp_live [0, 1, 5, 7, 9, 10, 11, 12, 70] ?_
                              try simp only [argSlots, pruneS, inN, eq_self, reduceIte, ite_true, Nat.reduceAdd, Nat.reduceBEq, Bool.or_true, Bool.true_or, Bool.or_false, Bool.false_or, if_true, if_false, Bool.false_eq_true]
                              refine vwp_region hT ?_
                              simp [-List.reduceReplicate, Dk.obs, Dk.robs, Dk.two]
                              repeat refine ⟨by first | assumption | omega | (rw [spl_length (by simp; omega)]; simp; done) | (intros; omega), ?_⟩
                              refine hK26 _ ?_
                              try clear hK26 K26
                              refine vwp_cond (by simp; rfl) (fun h7 => ?_) (fun h7 => ?_)
                              · try (exfalso; simp at h7; done)
                                all_goals
                                  try simp at h7
                                  refine vwp_live [0, 1, 5, 7, 9, 10, 11, 12] ?_
                                  try simp only [argSlots, pruneS, inN, eq_self, reduceIte, ite_true, Nat.reduceAdd, Nat.reduceBEq, Bool.or_true, Bool.true_or, Bool.or_false, Bool.false_or, if_true, if_false, Bool.false_eq_true]
                                  refine vwp_region hT ?_
                                  simp [-List.reduceReplicate, Dk.obs, Dk.robs, Dk.two]
                                  refine vcall_by0 [2, 3] (rcrash_spec d) (by simp) (by simp [Dk.obs, Dk.robs, Dk.two]) (by simp) (by simp [Dk.obs, Dk.robs, Dk.two]) ?_
                                  rintro r ob' ⟨rfl, rfl⟩
                                  simp [-List.reduceReplicate, Dk.obs, Dk.robs, Dk.two]
                                  repeat refine ⟨by first | assumption | omega | (rw [spl_length (by simp; omega)]; simp; done) | (intros; omega), ?_⟩
                                  refine hK22 _ ?_
                                  have hw : d.step n x = (0, d.crashed) := by unfold Dk.step; simp [*]
                                  rw [hw]
                                  refine Gh.to [0, 1, 5, 7, 9, 10, 11, 12] [0, 1, 2, 3, 4] _ _ ?_ ?_ rfl ?_ ?_
                                  · simp
                                  · simp [Dk.obs, Dk.robs, Dk.two]
                                  · simp
                                  · simp [Dk.obs, Dk.robs, Dk.two]
                              · try (exfalso; simp at h7; done)
                                all_goals
                                  try simp at h7
                                  refine vwp_seq_k fun K27 hK27 => ?_
                                  refine vwp_live [0, 1, 5, 7, 9, 10, 11, 12, 70] ?_
                                  try simp only [argSlots, pruneS, inN, eq_self, reduceIte, ite_true, Nat.reduceAdd, Nat.reduceBEq, Bool.or_true, Bool.true_or, Bool.or_false, Bool.false_or, if_true, if_false, Bool.false_eq_true]
                                  refine vwp_region hT ?_
                                  simp [-List.reduceReplicate, Dk.obs, Dk.robs, Dk.two]
                                  repeat refine ⟨by first | assumption | omega | (rw [spl_length (by simp; omega)]; simp; done) | (intros; omega), ?_⟩
                                  refine hK27 _ ?_
                                  try clear hK27 K27
                                  refine vwp_cond (by simp; rfl) (fun h8 => ?_) (fun h8 => ?_)
                                  · try (exfalso; simp at h8; done)
                                    all_goals
                                      try simp at h8
                                      refine vwp_live [0, 1, 5, 7, 9, 10, 11] ?_
                                      try simp only [argSlots, pruneS, inN, eq_self, reduceIte, ite_true, Nat.reduceAdd, Nat.reduceBEq, Bool.or_true, Bool.true_or, Bool.or_false, Bool.false_or, if_true, if_false, Bool.false_eq_true]
                                      refine vwp_region hT ?_
                                      simp [-List.reduceReplicate, Dk.obs, Dk.robs, Dk.two]
                                      refine vcall_by0 [2, 3] (rturn_spec d x.a (IntKind.u8.wrap x.c)) (by simp) (by simp [Dk.obs, Dk.robs, Dk.two]) (by simp) (by simp [Dk.obs, Dk.robs, Dk.two]) ?_
                                      rintro r ob' ⟨rfl, rfl⟩
                                      simp [-List.reduceReplicate, Dk.obs, Dk.robs, Dk.two]
                                      repeat refine ⟨by first | assumption | omega | (rw [spl_length (by simp; omega)]; simp; done) | (intros; omega), ?_⟩
                                      refine hK22 _ ?_
                                      have hw : d.step n x = d.turned x.a (IntKind.u8.wrap x.c) := by unfold Dk.step; simp [*]
                                      rw [hw]
                                      refine Gh.to [0, 1, 5, 7, 9, 10, 11, 12] [0, 1, 2, 3, 4] _ _ ?_ ?_ rfl ?_ ?_
                                      · simp
                                      · simp [Dk.obs, Dk.robs, Dk.two]
                                      · simp
                                      · simp [Dk.obs, Dk.robs, Dk.two]
                                  · try (exfalso; simp at h8; done)
                                    all_goals
                                      try simp at h8
                                      refine vwp_skip ?_
                                      try simp only [thenQ, inBlk]
                                      refine hK22 _ ?_
                                      have hw : d.step n x = (0, d) := by unfold Dk.step; simp [*]
                                      rw [hw]
                                      refine Gh.to [0, 1, 5, 7, 9, 10, 11, 12] [0, 1, 2, 3, 4] _ _ ?_ ?_ rfl ?_ ?_
                                      · simp
                                      · simp [Dk.obs, Dk.robs, Dk.two]
                                      · simp
                                      · simp [Dk.obs, Dk.robs, Dk.two]
                    · rintro st hg
                      refine vwp_gh hg ?_
                      have hd2 := Dk.step_ok (n := n) hd x hxa
                      clear hg
                      generalize d.step n x = q at hd2 ⊢
                      obtain ⟨ra, d2⟩ := q
                      dsimp only at hd2 ⊢
                      refine vwp_seq_k fun K28 hK28 => ?_
                      by_cases hat : 0 ≤ x.a ∧ x.a < n
                      · refine vwp_live [0, 1, 5, 7, 9, 10, 11, 12] ?_
                        try simp only [argSlots, pruneS, inN, eq_self, reduceIte, ite_true, Nat.reduceAdd, Nat.reduceBEq, Bool.or_true, Bool.true_or, Bool.or_false, Bool.false_or, if_true, if_false, Bool.false_eq_true]
                        refine vwp_region hT ?_
                        simp [-List.reduceReplicate, Dk.obs, Dk.robs, Dk.two]
                        refine vcall_by0 [0, 1] (read_spec d2 n hd2 x.a) (by simp) (by simp [Dk.obs, Dk.robs, Dk.two]) (by simp) (by simp [Dk.obs, Dk.robs, Dk.two]) ?_
                        intro r ob' hq
                        rw [if_pos hat] at hq
                        obtain ⟨rfl, rfl⟩ := hq
                        simp [-List.reduceReplicate, Dk.obs, Dk.robs, Dk.two]
                        repeat refine ⟨by first | assumption | omega | (rw [spl_length (by simp; omega)]; simp; done) | (intros; omega), ?_⟩
                        refine hK28 _ ?_
                        try clear hK28 K28
                        refine vwp_seq_k fun K29 hK29 => ?_
                        refine vwp_live [0, 1, 5, 7, 9, 10, 11, 12, 13, 14] ?_
                        try simp only [argSlots, pruneS, inN, eq_self, reduceIte, ite_true, Nat.reduceAdd, Nat.reduceBEq, Bool.or_true, Bool.true_or, Bool.or_false, Bool.false_or, if_true, if_false, Bool.false_eq_true]
                        refine vwp_region hT ?_
                        simp [-List.reduceReplicate, Dk.obs, Dk.robs, Dk.two]
                        refine vcall_by0 [2, 3] (rread_spec d2 n hd2 x.a) (by simp) (by simp [Dk.obs, Dk.robs, Dk.two]) (by simp) (by simp [Dk.obs, Dk.robs, Dk.two]) ?_
                        intro r ob' hq
                        rw [if_pos hat] at hq
                        obtain ⟨rfl, rfl⟩ := hq
                        simp [-List.reduceReplicate, Dk.obs, Dk.robs, Dk.two]
                        repeat refine ⟨by first | assumption | omega | (rw [spl_length (by simp; omega)]; simp; done) | (intros; omega), ?_⟩
                        refine hK29 _ ?_
                        try clear hK29 K29
                        refine vwp_seq_k fun K30 hK30 => ?_
                        refine vwp_seq_k fun K31 hK31 => ?_
                        have hsl : (d2.sector x.a.toNat).length = 32 := sector_length hd2 hat.2 hat.1
                        have htk : List.take 32 (List.map (V.int .u8) (d2.sector x.a.toNat)) = bts (d2.sector x.a.toNat) := List.take_of_length_le (by simp [hsl])
                        refine vwp_live [0, 1, 5, 7, 9, 11, 12, 13, 14, 15, 16] ?_
                        try simp only [argSlots, pruneS, inN, eq_self, reduceIte, ite_true, Nat.reduceAdd, Nat.reduceBEq, Bool.or_true, Bool.true_or, Bool.or_false, Bool.false_or, if_true, if_false, Bool.false_eq_true]
                        refine vwp_calm hT hm (by kernel_rfl) ?_
                        simp [-List.reduceReplicate, Dk.obs, Dk.robs, Dk.two]
                        refine ⟨.bool true, fun sl => ?_, ?_⟩
                        · refine vcall_by [] true (same_spec (d2.sector x.a.toNat) (d2.sector x.a.toNat) (by omega) (by omega)) (by simp) (by simp) (by simp [hsl, htk]) (by simp [hsl, htk]) ?_
                          rintro r ob' ⟨rfl, rfl⟩
                          simp
                        simp [-List.reduceReplicate, Dk.obs, Dk.robs, Dk.two]
                        refine ⟨.int .i64 d2.writes, fun sl => ?_, ?_⟩
                        · refine vcall_by0 [0, 1] (writes_spec d2 n) (by simp) (by simp [Dk.obs, Dk.robs, Dk.two]) (by simp) (by simp [Dk.obs, Dk.robs, Dk.two]) ?_
                          rintro r ob' ⟨rfl, rfl⟩
                          simp [Dk.obs]
                        simp [-List.reduceReplicate, Dk.obs, Dk.robs, Dk.two]
                        refine ⟨.int .i64 (n : Int), fun sl => ?_, ?_⟩
                        · refine vcall_by0 [0, 1] (sectors_spec d2 n) (by simp) (by simp [Dk.obs, Dk.robs, Dk.two]) (by simp) (by simp [Dk.obs, Dk.robs, Dk.two]) ?_
                          rintro r ob' ⟨rfl, rfl⟩
                          simp [Dk.obs]
                        simp [-List.reduceReplicate, Dk.obs, Dk.robs, Dk.two]
                        repeat refine ⟨by first | assumption | omega | (rw [spl_length (by simp; omega)]; simp; done) | (intros; omega), ?_⟩
                        refine hK31 _ ?_
                        try clear hK31 K31
                        refine vwp_cond (by simp; rfl) (fun h9 => ?_) (fun h9 => ?_)
                        · try (exfalso; simp at h9; done)
                          all_goals
                            try simp at h9
                            refine vwp_seq_k fun K32 hK32 => ?_
                            refine vwp_live [] ?_
                            try simp only [argSlots, pruneS, inN, eq_self, reduceIte, ite_true, Nat.reduceAdd, Nat.reduceBEq, Bool.or_true, Bool.true_or, Bool.or_false, Bool.false_or, if_true, if_false, Bool.false_eq_true]
                            refine vwp_region hT ?_
                            simp [-List.reduceReplicate, Dk.obs, Dk.robs, Dk.two]
                            repeat refine ⟨by first | assumption | omega | (rw [spl_length (by simp; omega)]; simp; done) | (intros; omega), ?_⟩
                            refine hK32 _ ?_
                            try clear hK32 K32
                            refine vwp_ret ?_
                            try simp only [thenQ, inBlk]
                            refine hR _ _ ?_
                            refine ret_only [4] [] [] (by simp) (by simp) rfl (by simp) (r := .bool true) (by simp [Try.f3]) rfl
                        · try (exfalso; simp at h9; done)
                          all_goals
                            try simp at h9
                            refine vwp_skip ?_
                            try simp only [thenQ, inBlk]
                            refine hK30 _ ?_
                            try clear hK30 K30
                            refine vwp_seq_k fun K33 hK33 => ?_
                            refine vwp_live [0, 1, 5, 7, 9] ?_
                            try simp only [argSlots, pruneS, inN, eq_self, reduceIte, ite_true, Nat.reduceAdd, Nat.reduceBEq, Bool.or_true, Bool.true_or, Bool.or_false, Bool.false_or, if_true, if_false, Bool.false_eq_true]
                            refine vwp_region hT ?_
                            simp [-List.reduceReplicate, Dk.obs, Dk.robs, Dk.two]
                            repeat refine ⟨by first | assumption | omega | (rw [spl_length (by simp; omega)]; simp; done) | (intros; omega), ?_⟩
                            refine hK33 _ ?_
                            try clear hK33 K33
                            refine vwp_block ?_
                            refine vwp_gh (Gh.to [0, 1, 5, 7, 9, 17] [0, 1, 2, 3] [(0, .int .i64 (n : Int)), (1, .fs l.length (opsV l)), (5, .ptr 0 5 0), (7, .ptr 2 5 0), (9, .int .i64 (i : Int)), (17, .int .i64 0)] (d2.two n) (by simp) (by simp [Dk.obs, Dk.robs, Dk.two]) rfl (by simp) (by simp)) ?_
                            refine vwp_loop_k (fun m st => ∃ k : Nat, k ≤ n ∧ m = n - k ∧ st = ⟨[(0, .int .i64 (n : Int)), (1, .fs l.length (opsV l)), (5, .ptr 0 5 0), (7, .ptr 2 5 0), (9, .int .i64 i), (17, .int .i64 k)], d2.two n⟩) n ⟨0, by omega, by simp, rfl⟩ ?_
                            rintro m st ⟨k, hk, rfl, rfl⟩
                            intro K34 hK34
                            refine vwp_seq_k fun K35 hK35 => ?_
                            refine vwp_seq_k fun K36 hK36 => ?_
                            refine vwp_live [0, 1, 5, 7, 9, 17] ?_
                            try simp only [argSlots, pruneS, inN, eq_self, reduceIte, ite_true, Nat.reduceAdd, Nat.reduceBEq, Bool.or_true, Bool.true_or, Bool.or_false, Bool.false_or, if_true, if_false, Bool.false_eq_true]
                            refine vwp_region hT ?_
                            simp [-List.reduceReplicate, Dk.obs, Dk.robs, Dk.two]
                            repeat refine ⟨by first | assumption | omega | (rw [spl_length (by simp; omega)]; simp; done) | (intros; omega), ?_⟩
                            refine hK36 _ ?_
                            try clear hK36 K36
                            refine vwp_cond (by simp; rfl) (fun h10 => ?_) (fun h10 => ?_)
                            · try (exfalso; simp at h10; done)
                              all_goals
                                try simp at h10
                                refine vwp_skip ?_
                                try simp only [thenQ, inBlk]
                                refine hK35 _ ?_
                                try clear hK35 K35
                                refine vwp_seq_k fun K37 hK37 => ?_
                                refine vwp_block ?_
                                refine vwp_seq_k fun K38 hK38 => ?_
                                have hsk : (d2.sector k).length = 32 := sector_length (a := k) hd2 (by omega) (by omega)
                                refine vwp_live [0, 1, 5, 7, 9, 17] ?_
                                try simp only [argSlots, pruneS, inN, eq_self, reduceIte, ite_true, Nat.reduceAdd, Nat.reduceBEq, Bool.or_true, Bool.true_or, Bool.or_false, Bool.false_or, if_true, if_false, Bool.false_eq_true]
                                refine vwp_region hT ?_
                                simp [-List.reduceReplicate, Dk.obs, Dk.robs, Dk.two]
                                refine vcall_by0 [0, 1] (read_spec d2 n hd2 k) (by simp) (by simp [Dk.obs, Dk.robs, Dk.two]) (by simp) (by simp [Dk.obs, Dk.robs, Dk.two]) ?_
                                intro r ob' hq
                                rw [if_pos (by omega)] at hq
                                obtain ⟨rfl, rfl⟩ := hq
                                simp [-List.reduceReplicate, Dk.obs, Dk.robs, Dk.two]
                                repeat refine ⟨by first | assumption | omega | (rw [spl_length (by simp; omega)]; simp; done) | (intros; omega), ?_⟩
                                refine hK38 _ ?_
                                try clear hK38 K38
                                refine vwp_seq_k fun K39 hK39 => ?_
                                have hl2 := hd2.len
                                have w1 : IntKind.i64.wrap (32 * (k : Int)) = 32 * k := w64 (by omega) (by omega)
                                have w2 : IntKind.i64.wrap (32 * (k : Int) + 32) = 32 * k + 32 := w64 (by omega) (by omega)
                                have w3 : (32 * (k : Int)).toNat = k * 32 := by omega
                                have w4 : (32 * (k : Int) + 32).toNat = k * 32 + 32 := by omega
                                have htk : List.take 32 (List.map (V.int .u8) (d2.sector k)) = bts (d2.sector k) := List.take_of_length_le (by simp [hsk])
                                have htd : List.take 32 (List.drop (k * 32) (List.map (V.int .u8) d2.B)) = bts (d2.sector k) := by simp [Dk.sector, List.map_take, List.map_drop]
                                refine vwp_live [0, 1, 5, 7, 9, 17, 18] ?_
                                try simp only [argSlots, pruneS, inN, eq_self, reduceIte, ite_true, Nat.reduceAdd, Nat.reduceBEq, Bool.or_true, Bool.true_or, Bool.or_false, Bool.false_or, if_true, if_false, Bool.false_eq_true]
                                refine vwp_region hT ?_
                                simp [-List.reduceReplicate, Dk.obs, Dk.robs, Dk.two, w1, w2, w3, w4]
                                refine ⟨⟨by omega, by omega, by omega⟩, ?_⟩
                                refine vcall_by [] true (same_spec (d2.sector k) (d2.sector k) (by omega) (by omega)) (by simp) (by simp) (by simp [hsk, htk, htd]) (by simp [hsk, htk, hl2]) ?_
                                rintro r ob' ⟨rfl, rfl⟩
                                simp [-List.reduceReplicate, Dk.obs, Dk.robs, Dk.two, w1, w2, w3, w4]
                                repeat refine ⟨by first | assumption | omega | (rw [spl_length (by simp; omega)]; simp; done) | (intros; omega), ?_⟩
                                refine hK39 _ ?_
                                try clear hK39 K39
                                refine vwp_cond (by simp; rfl) (fun h11 => ?_) (fun h11 => ?_)
                                · try (exfalso; simp at h11; done)
                                  all_goals
                                    try simp at h11
                                    refine vwp_seq_k fun K40 hK40 => ?_
                                    refine vwp_live [] ?_
                                    try simp only [argSlots, pruneS, inN, eq_self, reduceIte, ite_true, Nat.reduceAdd, Nat.reduceBEq, Bool.or_true, Bool.true_or, Bool.or_false, Bool.false_or, if_true, if_false, Bool.false_eq_true]
                                    refine vwp_region hT ?_
                                    simp [-List.reduceReplicate, Dk.obs, Dk.robs, Dk.two]
                                    repeat refine ⟨by first | assumption | omega | (rw [spl_length (by simp; omega)]; simp; done) | (intros; omega), ?_⟩
                                    refine hK40 _ ?_
                                    try clear hK40 K40
                                    refine vwp_ret ?_
                                    try simp only [thenQ, inBlk]
                                    refine hR _ _ ?_
                                    refine ret_only [4] [] [] (by simp) (by simp) rfl (by simp) (r := .bool true) (by simp [Try.f3]) rfl
                                · try (exfalso; simp at h11; done)
                                  all_goals
                                    try simp at h11
                                    refine vwp_skip ?_
                                    try simp only [thenQ, inBlk]
                                    refine hK37 _ ?_
                                    try clear hK37 K37
                                    refine vwp_live [0, 1, 5, 7, 9, 17] ?_
                                    try simp only [argSlots, pruneS, inN, eq_self, reduceIte, ite_true, Nat.reduceAdd, Nat.reduceBEq, Bool.or_true, Bool.true_or, Bool.or_false, Bool.false_or, if_true, if_false, Bool.false_eq_true]
                                    refine vwp_region hT ?_
                                    simp [-List.reduceReplicate, Dk.obs, Dk.robs, Dk.two]
                                    repeat refine ⟨by first | assumption | omega | (rw [spl_length (by simp; omega)]; simp; done) | (intros; omega), ?_⟩
                                    refine hK34 _ ?_
                                    refine ⟨_, Gh.to [0, 1, 5, 7, 9, 17] [0, 1, 2, 3] [(0, .int .i64 (n : Int)), (1, .fs l.length (opsV l)), (5, .ptr 0 5 0), (7, .ptr 2 5 0), (9, .int .i64 (i : Int)), (17, .int .i64 ((k + 1 : Nat) : Int))] (d2.two n) (by simp) (by simp [Dk.obs, Dk.robs, Dk.two]) rfl (by simp) (by simp; exact w64 (by omega) (by omega)), n - (k + 1), by omega, k + 1, by omega, rfl, rfl⟩
                            · try (exfalso; simp at h10; done)
                              all_goals
                                try simp at h10
                                refine vwp_exit ?_
                                simp only [inBlk, thenQ, if_true]
                                refine hK18 _ ?_
                                try clear hK18 K18
                                refine vwp_live [0, 1, 5, 7, 9] ?_
                                try simp only [argSlots, pruneS, inN, eq_self, reduceIte, ite_true, Nat.reduceAdd, Nat.reduceBEq, Bool.or_true, Bool.true_or, Bool.or_false, Bool.false_or, if_true, if_false, Bool.false_eq_true]
                                refine vwp_region hT ?_
                                simp [-List.reduceReplicate, Dk.obs, Dk.robs, Dk.two]
                                repeat refine ⟨by first | assumption | omega | (rw [spl_length (by simp; omega)]; simp; done) | (intros; omega), ?_⟩
                                refine hK15 _ ?_
                                refine ⟨_, Gh.to [0, 1, 5, 7, 9] [0, 1, 2, 3] [(0, .int .i64 (n : Int)), (1, .fs l.length (opsV l)), (5, .ptr 0 5 0), (7, .ptr 2 5 0), (9, .int .i64 ((i + 1 : Nat) : Int))] (d2.two n) (by simp) (by simp [Dk.obs, Dk.robs, Dk.two]) rfl (by simp) (by simp; exact w64 (by omega) (by omega)), l.length - (i + 1), by omega, i + 1, d2, hd2, by omega, rfl, rfl⟩
                      · refine vwp_live [0, 1, 5, 7, 9, 10, 11, 12] ?_
                        try simp only [argSlots, pruneS, inN, eq_self, reduceIte, ite_true, Nat.reduceAdd, Nat.reduceBEq, Bool.or_true, Bool.true_or, Bool.or_false, Bool.false_or, if_true, if_false, Bool.false_eq_true]
                        refine vwp_region hT ?_
                        simp [-List.reduceReplicate, Dk.obs, Dk.robs, Dk.two]
                        refine vcall_by0 [0, 1] (read_spec d2 n hd2 x.a) (by simp) (by simp [Dk.obs, Dk.robs, Dk.two]) (by simp) (by simp [Dk.obs, Dk.robs, Dk.two]) ?_
                        intro r ob' hq
                        rw [if_neg hat] at hq
                        obtain ⟨rfl, rfl⟩ := hq
                        simp [-List.reduceReplicate, Dk.obs, Dk.robs, Dk.two]
                        repeat refine ⟨by first | assumption | omega | (rw [spl_length (by simp; omega)]; simp; done) | (intros; omega), ?_⟩
                        refine hK28 _ ?_
                        try clear hK28 K28
                        refine vwp_seq_k fun K41 hK41 => ?_
                        refine vwp_live [0, 1, 5, 7, 9, 10, 11, 12, 13, 14] ?_
                        try simp only [argSlots, pruneS, inN, eq_self, reduceIte, ite_true, Nat.reduceAdd, Nat.reduceBEq, Bool.or_true, Bool.true_or, Bool.or_false, Bool.false_or, if_true, if_false, Bool.false_eq_true]
                        refine vwp_region hT ?_
                        simp [-List.reduceReplicate, Dk.obs, Dk.robs, Dk.two]
                        refine vcall_by0 [2, 3] (rread_spec d2 n hd2 x.a) (by simp) (by simp [Dk.obs, Dk.robs, Dk.two]) (by simp) (by simp [Dk.obs, Dk.robs, Dk.two]) ?_
                        intro r ob' hq
                        rw [if_neg hat] at hq
                        obtain ⟨rfl, rfl⟩ := hq
                        simp [-List.reduceReplicate, Dk.obs, Dk.robs, Dk.two]
                        repeat refine ⟨by first | assumption | omega | (rw [spl_length (by simp; omega)]; simp; done) | (intros; omega), ?_⟩
                        refine hK41 _ ?_
                        try clear hK41 K41
                        refine vwp_seq_k fun K42 hK42 => ?_
                        refine vwp_seq_k fun K43 hK43 => ?_
                        refine vwp_live [0, 1, 5, 7, 9, 11, 12, 13, 14, 15, 16] ?_
                        try simp only [argSlots, pruneS, inN, eq_self, reduceIte, ite_true, Nat.reduceAdd, Nat.reduceBEq, Bool.or_true, Bool.true_or, Bool.or_false, Bool.false_or, if_true, if_false, Bool.false_eq_true]
                        refine vwp_calm hT hm (by kernel_rfl) ?_
                        simp [-List.reduceReplicate, Dk.obs, Dk.robs, Dk.two]
                        refine ⟨.bool true, fun sl => ?_, ?_⟩
                        · refine vcall_by [] true same_nil (by simp) (by simp) (by simp) (by simp) ?_
                          rintro r ob' ⟨rfl, rfl⟩
                          simp
                        simp [-List.reduceReplicate, Dk.obs, Dk.robs, Dk.two]
                        refine ⟨.int .i64 d2.writes, fun sl => ?_, ?_⟩
                        · refine vcall_by0 [0, 1] (writes_spec d2 n) (by simp) (by simp [Dk.obs, Dk.robs, Dk.two]) (by simp) (by simp [Dk.obs, Dk.robs, Dk.two]) ?_
                          rintro r ob' ⟨rfl, rfl⟩
                          simp [Dk.obs]
                        simp [-List.reduceReplicate, Dk.obs, Dk.robs, Dk.two]
                        refine ⟨.int .i64 (n : Int), fun sl => ?_, ?_⟩
                        · refine vcall_by0 [0, 1] (sectors_spec d2 n) (by simp) (by simp [Dk.obs, Dk.robs, Dk.two]) (by simp) (by simp [Dk.obs, Dk.robs, Dk.two]) ?_
                          rintro r ob' ⟨rfl, rfl⟩
                          simp [Dk.obs]
                        simp [-List.reduceReplicate, Dk.obs, Dk.robs, Dk.two]
                        repeat refine ⟨by first | assumption | omega | (rw [spl_length (by simp; omega)]; simp; done) | (intros; omega), ?_⟩
                        refine hK43 _ ?_
                        try clear hK43 K43
                        refine vwp_cond (by simp; rfl) (fun h12 => ?_) (fun h12 => ?_)
                        · try (exfalso; simp at h12; done)
                          all_goals
                            try simp at h12
                            refine vwp_seq_k fun K44 hK44 => ?_
                            refine vwp_live [] ?_
                            try simp only [argSlots, pruneS, inN, eq_self, reduceIte, ite_true, Nat.reduceAdd, Nat.reduceBEq, Bool.or_true, Bool.true_or, Bool.or_false, Bool.false_or, if_true, if_false, Bool.false_eq_true]
                            refine vwp_region hT ?_
                            simp [-List.reduceReplicate, Dk.obs, Dk.robs, Dk.two]
                            repeat refine ⟨by first | assumption | omega | (rw [spl_length (by simp; omega)]; simp; done) | (intros; omega), ?_⟩
                            refine hK44 _ ?_
                            try clear hK44 K44
                            refine vwp_ret ?_
                            try simp only [thenQ, inBlk]
                            refine hR _ _ ?_
                            refine ret_only [4] [] [] (by simp) (by simp) rfl (by simp) (r := .bool true) (by simp [Try.f3]) rfl
                        · try (exfalso; simp at h12; done)
                          all_goals
                            try simp at h12
                            refine vwp_skip ?_
                            try simp only [thenQ, inBlk]
                            refine hK42 _ ?_
                            try clear hK42 K42
                            refine vwp_seq_k fun K45 hK45 => ?_
                            refine vwp_live [0, 1, 5, 7, 9] ?_
                            try simp only [argSlots, pruneS, inN, eq_self, reduceIte, ite_true, Nat.reduceAdd, Nat.reduceBEq, Bool.or_true, Bool.true_or, Bool.or_false, Bool.false_or, if_true, if_false, Bool.false_eq_true]
                            refine vwp_region hT ?_
                            simp [-List.reduceReplicate, Dk.obs, Dk.robs, Dk.two]
                            repeat refine ⟨by first | assumption | omega | (rw [spl_length (by simp; omega)]; simp; done) | (intros; omega), ?_⟩
                            refine hK45 _ ?_
                            try clear hK45 K45
                            refine vwp_block ?_
                            refine vwp_gh (Gh.to [0, 1, 5, 7, 9, 17] [0, 1, 2, 3] [(0, .int .i64 (n : Int)), (1, .fs l.length (opsV l)), (5, .ptr 0 5 0), (7, .ptr 2 5 0), (9, .int .i64 (i : Int)), (17, .int .i64 0)] (d2.two n) (by simp) (by simp [Dk.obs, Dk.robs, Dk.two]) rfl (by simp) (by simp)) ?_
                            refine vwp_loop_k (fun m st => ∃ k : Nat, k ≤ n ∧ m = n - k ∧ st = ⟨[(0, .int .i64 (n : Int)), (1, .fs l.length (opsV l)), (5, .ptr 0 5 0), (7, .ptr 2 5 0), (9, .int .i64 i), (17, .int .i64 k)], d2.two n⟩) n ⟨0, by omega, by simp, rfl⟩ ?_
                            rintro m st ⟨k, hk, rfl, rfl⟩
                            intro K46 hK46
                            refine vwp_seq_k fun K47 hK47 => ?_
                            refine vwp_seq_k fun K48 hK48 => ?_
                            refine vwp_live [0, 1, 5, 7, 9, 17] ?_
                            try simp only [argSlots, pruneS, inN, eq_self, reduceIte, ite_true, Nat.reduceAdd, Nat.reduceBEq, Bool.or_true, Bool.true_or, Bool.or_false, Bool.false_or, if_true, if_false, Bool.false_eq_true]
                            refine vwp_region hT ?_
                            simp [-List.reduceReplicate, Dk.obs, Dk.robs, Dk.two]
                            repeat refine ⟨by first | assumption | omega | (rw [spl_length (by simp; omega)]; simp; done) | (intros; omega), ?_⟩
                            refine hK48 _ ?_
                            try clear hK48 K48
                            refine vwp_cond (by simp; rfl) (fun h13 => ?_) (fun h13 => ?_)
                            · try (exfalso; simp at h13; done)
                              all_goals
                                try simp at h13
                                refine vwp_skip ?_
                                try simp only [thenQ, inBlk]
                                refine hK47 _ ?_
                                try clear hK47 K47
                                refine vwp_seq_k fun K49 hK49 => ?_
                                refine vwp_block ?_
                                refine vwp_seq_k fun K50 hK50 => ?_
                                have hsk : (d2.sector k).length = 32 := sector_length (a := k) hd2 (by omega) (by omega)
                                refine vwp_live [0, 1, 5, 7, 9, 17] ?_
                                try simp only [argSlots, pruneS, inN, eq_self, reduceIte, ite_true, Nat.reduceAdd, Nat.reduceBEq, Bool.or_true, Bool.true_or, Bool.or_false, Bool.false_or, if_true, if_false, Bool.false_eq_true]
                                refine vwp_region hT ?_
                                simp [-List.reduceReplicate, Dk.obs, Dk.robs, Dk.two]
                                refine vcall_by0 [0, 1] (read_spec d2 n hd2 k) (by simp) (by simp [Dk.obs, Dk.robs, Dk.two]) (by simp) (by simp [Dk.obs, Dk.robs, Dk.two]) ?_
                                intro r ob' hq
                                rw [if_pos (by omega)] at hq
                                obtain ⟨rfl, rfl⟩ := hq
                                simp [-List.reduceReplicate, Dk.obs, Dk.robs, Dk.two]
                                repeat refine ⟨by first | assumption | omega | (rw [spl_length (by simp; omega)]; simp; done) | (intros; omega), ?_⟩
                                refine hK50 _ ?_
                                try clear hK50 K50
                                refine vwp_seq_k fun K51 hK51 => ?_
                                have hl2 := hd2.len
                                have w1 : IntKind.i64.wrap (32 * (k : Int)) = 32 * k := w64 (by omega) (by omega)
                                have w2 : IntKind.i64.wrap (32 * (k : Int) + 32) = 32 * k + 32 := w64 (by omega) (by omega)
                                have w3 : (32 * (k : Int)).toNat = k * 32 := by omega
                                have w4 : (32 * (k : Int) + 32).toNat = k * 32 + 32 := by omega
                                have htk : List.take 32 (List.map (V.int .u8) (d2.sector k)) = bts (d2.sector k) := List.take_of_length_le (by simp [hsk])
                                have htd : List.take 32 (List.drop (k * 32) (List.map (V.int .u8) d2.B)) = bts (d2.sector k) := by simp [Dk.sector, List.map_take, List.map_drop]
                                refine vwp_live [0, 1, 5, 7, 9, 17, 18] ?_
                                try simp only [argSlots, pruneS, inN, eq_self, reduceIte, ite_true, Nat.reduceAdd, Nat.reduceBEq, Bool.or_true, Bool.true_or, Bool.or_false, Bool.false_or, if_true, if_false, Bool.false_eq_true]
                                refine vwp_region hT ?_
                                simp [-List.reduceReplicate, Dk.obs, Dk.robs, Dk.two, w1, w2, w3, w4]
                                refine ⟨⟨by omega, by omega, by omega⟩, ?_⟩
                                refine vcall_by [] true (same_spec (d2.sector k) (d2.sector k) (by omega) (by omega)) (by simp) (by simp) (by simp [hsk, htk, htd]) (by simp [hsk, htk, hl2]) ?_
                                rintro r ob' ⟨rfl, rfl⟩
                                simp [-List.reduceReplicate, Dk.obs, Dk.robs, Dk.two, w1, w2, w3, w4]
                                repeat refine ⟨by first | assumption | omega | (rw [spl_length (by simp; omega)]; simp; done) | (intros; omega), ?_⟩
                                refine hK51 _ ?_
                                try clear hK51 K51
                                refine vwp_cond (by simp; rfl) (fun h14 => ?_) (fun h14 => ?_)
                                · try (exfalso; simp at h14; done)
                                  all_goals
                                    try simp at h14
                                    refine vwp_seq_k fun K52 hK52 => ?_
                                    refine vwp_live [] ?_
                                    try simp only [argSlots, pruneS, inN, eq_self, reduceIte, ite_true, Nat.reduceAdd, Nat.reduceBEq, Bool.or_true, Bool.true_or, Bool.or_false, Bool.false_or, if_true, if_false, Bool.false_eq_true]
                                    refine vwp_region hT ?_
                                    simp [-List.reduceReplicate, Dk.obs, Dk.robs, Dk.two]
                                    repeat refine ⟨by first | assumption | omega | (rw [spl_length (by simp; omega)]; simp; done) | (intros; omega), ?_⟩
                                    refine hK52 _ ?_
                                    try clear hK52 K52
                                    refine vwp_ret ?_
                                    try simp only [thenQ, inBlk]
                                    refine hR _ _ ?_
                                    refine ret_only [4] [] [] (by simp) (by simp) rfl (by simp) (r := .bool true) (by simp [Try.f3]) rfl
                                · try (exfalso; simp at h14; done)
                                  all_goals
                                    try simp at h14
                                    refine vwp_skip ?_
                                    try simp only [thenQ, inBlk]
                                    refine hK49 _ ?_
                                    try clear hK49 K49
                                    refine vwp_live [0, 1, 5, 7, 9, 17] ?_
                                    try simp only [argSlots, pruneS, inN, eq_self, reduceIte, ite_true, Nat.reduceAdd, Nat.reduceBEq, Bool.or_true, Bool.true_or, Bool.or_false, Bool.false_or, if_true, if_false, Bool.false_eq_true]
                                    refine vwp_region hT ?_
                                    simp [-List.reduceReplicate, Dk.obs, Dk.robs, Dk.two]
                                    repeat refine ⟨by first | assumption | omega | (rw [spl_length (by simp; omega)]; simp; done) | (intros; omega), ?_⟩
                                    refine hK46 _ ?_
                                    refine ⟨_, Gh.to [0, 1, 5, 7, 9, 17] [0, 1, 2, 3] [(0, .int .i64 (n : Int)), (1, .fs l.length (opsV l)), (5, .ptr 0 5 0), (7, .ptr 2 5 0), (9, .int .i64 (i : Int)), (17, .int .i64 ((k + 1 : Nat) : Int))] (d2.two n) (by simp) (by simp [Dk.obs, Dk.robs, Dk.two]) rfl (by simp) (by simp; exact w64 (by omega) (by omega)), n - (k + 1), by omega, k + 1, by omega, rfl, rfl⟩
                            · try (exfalso; simp at h13; done)
                              all_goals
                                try simp at h13
                                refine vwp_exit ?_
                                simp only [inBlk, thenQ, if_true]
                                refine hK18 _ ?_
                                try clear hK18 K18
                                refine vwp_live [0, 1, 5, 7, 9] ?_
                                try simp only [argSlots, pruneS, inN, eq_self, reduceIte, ite_true, Nat.reduceAdd, Nat.reduceBEq, Bool.or_true, Bool.true_or, Bool.or_false, Bool.false_or, if_true, if_false, Bool.false_eq_true]
                                refine vwp_region hT ?_
                                simp [-List.reduceReplicate, Dk.obs, Dk.robs, Dk.two]
                                repeat refine ⟨by first | assumption | omega | (rw [spl_length (by simp; omega)]; simp; done) | (intros; omega), ?_⟩
                                refine hK15 _ ?_
                                refine ⟨_, Gh.to [0, 1, 5, 7, 9] [0, 1, 2, 3] [(0, .int .i64 (n : Int)), (1, .fs l.length (opsV l)), (5, .ptr 0 5 0), (7, .ptr 2 5 0), (9, .int .i64 ((i + 1 : Nat) : Int))] (d2.two n) (by simp) (by simp [Dk.obs, Dk.robs, Dk.two]) rfl (by simp) (by simp; exact w64 (by omega) (by omega)), l.length - (i + 1), by omega, i + 1, d2, hd2, by omega, rfl, rfl⟩
                · try (exfalso; simp at h4; done)
                  all_goals
                    try simp at h4
                    refine vwp_exit ?_
                    simp only [inBlk, thenQ, if_true]
                    refine hK13 _ ?_
                    try clear hK13 K13
                    refine vwp_seq_k fun K53 hK53 => ?_
                    refine vwp_live [] ?_
                    try simp only [argSlots, pruneS, inN, eq_self, reduceIte, ite_true, Nat.reduceAdd, Nat.reduceBEq, Bool.or_true, Bool.true_or, Bool.or_false, Bool.false_or, if_true, if_false, Bool.false_eq_true]
                    refine vwp_region hT ?_
                    simp [-List.reduceReplicate, Dk.obs, Dk.robs, Dk.two]
                    repeat refine ⟨by first | assumption | omega | (rw [spl_length (by simp; omega)]; simp; done) | (intros; omega), ?_⟩
                    refine hK53 _ ?_
                    try clear hK53 K53
                    refine vwp_ret ?_
                    try simp only [thenQ, inBlk]
                    refine hR _ _ ?_
                    refine ret_only [4] [] [] (by simp) (by simp) rfl (by simp) (r := .bool true) (by simp [Try.f3]) rfl
          · refine vwp_live [0, 1] ?_
            try simp only [argSlots, pruneS, inN, eq_self, reduceIte, ite_true, Nat.reduceAdd, Nat.reduceBEq, Bool.or_true, Bool.true_or, Bool.or_false, Bool.false_or, if_true, if_false, Bool.false_eq_true]
            refine vwp_region hT ?_
            simp [-List.reduceReplicate, Dk.obs, Dk.robs, Dk.two]
            refine vcall_by0 [] (new_spec s) (by simp) (by simp [Dk.obs, Dk.robs, Dk.two]) (by simp) (by simp [Dk.obs, Dk.robs, Dk.two]) ?_
            intro r ob' hq
            rw [if_neg hs] at hq
            obtain ⟨rfl, rfl⟩ := hq
            simp [-List.reduceReplicate, Dk.obs, Dk.robs, Dk.two]
            repeat refine ⟨by first | assumption | omega | (rw [spl_length (by simp; omega)]; simp; done) | (intros; omega), ?_⟩
            refine hK8 _ ?_
            try clear hK8 K8
            refine vwp_seq_k fun K54 hK54 => ?_
            refine vwp_live [0, 1, 5, 6] ?_
            try simp only [argSlots, pruneS, inN, eq_self, reduceIte, ite_true, Nat.reduceAdd, Nat.reduceBEq, Bool.or_true, Bool.true_or, Bool.or_false, Bool.false_or, if_true, if_false, Bool.false_eq_true]
            refine vwp_region hT ?_
            simp [-List.reduceReplicate, Dk.obs, Dk.robs, Dk.two]
            refine vcall_by0 [] (rnew_spec s) (by simp) (by simp [Dk.obs, Dk.robs, Dk.two]) (by simp) (by simp [Dk.obs, Dk.robs, Dk.two]) ?_
            intro r ob' hq
            rw [if_neg hs] at hq
            obtain ⟨rfl, rfl⟩ := hq
            simp [-List.reduceReplicate, Dk.obs, Dk.robs, Dk.two]
            repeat refine ⟨by first | assumption | omega | (rw [spl_length (by simp; omega)]; simp; done) | (intros; omega), ?_⟩
            refine hK54 _ ?_
            try clear hK54 K54
            refine vwp_seq_k fun K55 hK55 => ?_
            refine vwp_seq_k fun K56 hK56 => ?_
            refine vwp_live [0, 1, 5, 6, 7, 8] ?_
            try simp only [argSlots, pruneS, inN, eq_self, reduceIte, ite_true, Nat.reduceAdd, Nat.reduceBEq, Bool.or_true, Bool.true_or, Bool.or_false, Bool.false_or, if_true, if_false, Bool.false_eq_true]
            refine vwp_region hT ?_
            simp [-List.reduceReplicate, Dk.obs, Dk.robs, Dk.two]
            repeat refine ⟨by first | assumption | omega | (rw [spl_length (by simp; omega)]; simp; done) | (intros; omega), ?_⟩
            refine hK56 _ ?_
            try clear hK56 K56
            refine vwp_cond (by simp; rfl) (fun h15 => ?_) (fun h15 => ?_)
            · try (exfalso; simp at h15; done)
              all_goals
                try simp at h15
                refine vwp_seq_k fun K57 hK57 => ?_
                refine vwp_live [] ?_
                try simp only [argSlots, pruneS, inN, eq_self, reduceIte, ite_true, Nat.reduceAdd, Nat.reduceBEq, Bool.or_true, Bool.true_or, Bool.or_false, Bool.false_or, if_true, if_false, Bool.false_eq_true]
                refine vwp_region hT ?_
                simp [-List.reduceReplicate, Dk.obs, Dk.robs, Dk.two]
                repeat refine ⟨by first | assumption | omega | (rw [spl_length (by simp; omega)]; simp; done) | (intros; omega), ?_⟩
                refine hK57 _ ?_
                try clear hK57 K57
                refine vwp_ret ?_
                try simp only [thenQ, inBlk]
                refine hR _ _ ?_
                refine ret_only [4] [] [] (by simp) (by simp) rfl (by simp) (r := .bool true) (by simp [Try.f3]) rfl
            · try (exfalso; simp at h15; done)
              all_goals
                try simp at h15
                refine vwp_skip ?_
                try simp only [thenQ, inBlk]
                refine hK55 _ ?_
                try clear hK55 K55
                refine vwp_seq_k fun K58 hK58 => ?_
                refine vwp_seq_k fun K59 hK59 => ?_
                refine vwp_live [0, 1, 5, 7] ?_
                try simp only [argSlots, pruneS, inN, eq_self, reduceIte, ite_true, Nat.reduceAdd, Nat.reduceBEq, Bool.or_true, Bool.true_or, Bool.or_false, Bool.false_or, if_true, if_false, Bool.false_eq_true]
                refine vwp_region hT ?_
                simp [-List.reduceReplicate, Dk.obs, Dk.robs, Dk.two]
                repeat refine ⟨by first | assumption | omega | (rw [spl_length (by simp; omega)]; simp; done) | (intros; omega), ?_⟩
                refine hK59 _ ?_
                try clear hK59 K59
                refine vwp_block ?_
                refine vwp_loop_k (fun m st => ∃ j : Int, st = ⟨[(0, .int .i64 s), (1, .fs l.length (opsV l)), (5, .nilp), (7, .nilp), (9, .int .i64 j)], []⟩) 0 ⟨0, rfl⟩ ?_
                rintro m st ⟨j, rfl⟩
                intro K60 hK60
                refine vwp_seq_k fun K61 hK61 => ?_
                refine vwp_seq_k fun K62 hK62 => ?_
                refine vwp_live [0, 1, 5, 7, 9] ?_
                try simp only [argSlots, pruneS, inN, eq_self, reduceIte, ite_true, Nat.reduceAdd, Nat.reduceBEq, Bool.or_true, Bool.true_or, Bool.or_false, Bool.false_or, if_true, if_false, Bool.false_eq_true]
                refine vwp_region hT ?_
                simp [-List.reduceReplicate, Dk.obs, Dk.robs, Dk.two]
                repeat refine ⟨by first | assumption | omega | (rw [spl_length (by simp; omega)]; simp; done) | (intros; omega), ?_⟩
                refine hK62 _ ?_
                try clear hK62 K62
                refine vwp_cond (by simp; rfl) (fun h16 => ?_) (fun h16 => ?_)
                · try (exfalso; simp at h16; done)
                  all_goals
                    try simp at h16
                    refine vwp_skip ?_
                    try simp only [thenQ, inBlk]
                    refine hK61 _ ?_
                    try clear hK61 K61
                    refine vwp_seq_k fun K63 hK63 => ?_
                    refine vwp_block ?_
                    refine vwp_seq_k fun K64 hK64 => ?_
                    skip
                · try (exfalso; simp at h16; done)
                  all_goals
                    try simp at h16
                    refine vwp_exit ?_
                    simp only [inBlk, thenQ, if_true]
                    refine hK58 _ ?_
                    try clear hK58 K58
                    refine vwp_seq_k fun K65 hK65 => ?_
                    refine vwp_live [] ?_
                    try simp only [argSlots, pruneS, inN, eq_self, reduceIte, ite_true, Nat.reduceAdd, Nat.reduceBEq, Bool.or_true, Bool.true_or, Bool.or_false, Bool.false_or, if_true, if_false, Bool.false_eq_true]
                    refine vwp_region hT ?_
                    simp [-List.reduceReplicate, Dk.obs, Dk.robs, Dk.two]
                    repeat refine ⟨by first | assumption | omega | (rw [spl_length (by simp; omega)]; simp; done) | (intros; omega), ?_⟩
                    refine hK65 _ ?_
                    try clear hK65 K65
                    refine vwp_ret ?_
                    try simp only [thenQ, inBlk]
                    refine hR _ _ ?_
                    refine ret_only [4] [] [] (by simp) (by simp) rfl (by simp) (r := .bool true) (by simp [Try.f3]) rfl
end Go.Proofs.Ytibhpkolbffdaaa
