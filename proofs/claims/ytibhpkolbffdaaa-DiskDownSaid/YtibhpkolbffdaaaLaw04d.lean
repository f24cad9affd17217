/- DiskLast: what it answers. -/
import Derived.Test.YtibhpkolbffdaaaLaw04c
import Derived.Test.YtibhpkolbffdaaaDisk3
import Derived.Test.YtibhpkolbffdaaaSame
namespace Go.Proofs.Ytibhpkolbffdaaa
open Go Go.VX Go.RowKit
set_option linter.unusedVariables false
set_option linter.unusedSimpArgs false
set_option maxHeartbeats 20000000
set_option maxRecDepth 100000

theorem splI_get {l m : List Int} {o p : Nat} (h : o + m.length ≤ l.length) : (splI l o m)[p]? = if p < o then l[p]? else if p < o + m.length then m[p - o]? else l[p]? := by
  simp only [splI, List.getElem?_append, List.length_append, List.length_take, List.getElem?_take, List.getElem?_drop]
  have e1 : min o l.length = o := by omega
  rw [e1]
  by_cases h1 : p < o
  · rw [if_pos (by omega), if_pos h1, if_pos h1, if_pos h1]
  · by_cases h2 : p < o + m.length
    · rw [if_pos h2, if_neg h1, if_neg h1, if_pos h2]
    · rw [if_neg h2, if_neg h1, if_neg h2]
      congr 1
      omega
theorem sector_get {d : Dk} {k p : Nat} (hp : p < 32) : (d.sector k)[p]? = d.B[k * 32 + p]? := by
  simp [Dk.sector, List.getElem?_take, hp]
theorem sector_other {B m : List Int} {a k : Nat} (hm : m.length ≤ 32) (hne : a ≠ k) (h : a * 32 + m.length ≤ B.length) : ((splI B (a * 32) m).drop (k * 32)).take 32 = (B.drop (k * 32)).take 32 := by
  apply List.ext_getElem?
  intro p
  simp only [List.getElem?_take, List.getElem?_drop]
  by_cases hp : p < 32
  · rw [if_pos hp, if_pos hp, splI_get h]
    by_cases h1 : k * 32 + p < a * 32
    · rw [if_pos h1]
    · rw [if_neg h1, if_neg (by omega)]
  · rw [if_neg hp, if_neg hp]
theorem sector_same {B m : List Int} {k : Nat} (hm : m.length ≤ 32) (h : k * 32 + m.length ≤ B.length) : ((splI B (k * 32) m).drop (k * 32)).take 32 = m ++ ((B.drop (k * 32)).take 32).drop m.length := by
  apply List.ext_getElem?
  intro p
  simp only [List.getElem?_take, List.getElem?_drop, List.getElem?_append]
  by_cases hp : p < 32
  · rw [if_pos hp, splI_get h, if_neg (by omega)]
    by_cases h1 : p < m.length
    · rw [if_pos (by omega), if_pos h1]
      congr 1
      omega
    · rw [if_neg (by omega), if_neg h1, if_pos (by omega)]
      congr 1
      omega
  · rw [if_neg hp, if_neg (by omega), if_neg (by omega)]
theorem last_other {d : Dk} {n : Nat} (hd : d.ok n) {x : DOp} {k : Nat} (hk : k < n) (h3 : x.do_ ≠ 3) (h : ¬ (x.do_ = 0 ∧ x.a = k ∧ x.b.length ≤ 32)) : (d.step n x).2.sector k = d.sector k := by
  have hl := hd.len
  have t0 := hd.t0
  have t1 := hd.t1
  unfold Dk.step
  split
  · rename_i h0
    unfold Dk.write
    split
    · rename_i ha
      split
      · rfl
      · rename_i hb
        have hne : x.a.toNat ≠ k := fun e => h ⟨h0, by omega, by omega⟩
        have hp := pad_length (b := x.b) (by omega)
        split
        · rfl
        · split
          · exact sector_other (by simp [hp]; omega) hne (by simp [hp]; omega)
          · exact sector_other (by omega) hne (by omega)
    · rfl
  split
  · rfl
  split
  · rfl
  first | (split; first | contradiction | rfl) | rfl
  try rfl
theorem last_write {d : Dk} {n : Nat} (hd : d.ok n) {x : DOp} {k : Nat} (hk : k < n) (h0 : x.do_ = 0) (ha : x.a = k) (hb : x.b.length ≤ 32) :
    ((d.step n x).1 = 0 ∧ (d.step n x).2.sector k = pad x.b) ∨
    ((d.step n x).1 = 7 ∧ ((d.step n x).2.sector k = d.sector k ∨ (d.step n x).2.sector k = (pad x.b).take d.torn.toNat ++ (d.sector k).drop d.torn.toNat)) := by
  have hl := hd.len
  have t0 := hd.t0
  have t1 := hd.t1
  have hp := pad_length (b := x.b) hb
  have hak : x.a.toNat = k := by omega
  unfold Dk.step
  rw [if_pos h0]
  unfold Dk.write
  rw [if_pos (by omega), if_neg (by omega), hak]
  split
  · exact .inr ⟨rfl, .inl rfl⟩
  · split
    · refine .inr ⟨rfl, .inr ?_⟩
      have e : ((pad x.b).take d.torn.toNat).length = d.torn.toNat := by simp [hp]; omega
      have := sector_same (B := d.B) (m := (pad x.b).take d.torn.toNat) (k := k) (by omega) (by omega)
      rw [e] at this
      exact this
    · refine .inl ⟨rfl, ?_⟩
      have := sector_same (B := d.B) (m := pad x.b) (k := k) (by omega) (by omega)
      rw [hp] at this
      have e : ((d.B.drop (k * 32)).take 32).drop 32 = [] := List.drop_eq_nil_of_le (by simp; omega)
      rw [e, List.append_nil] at this
      exact this
theorem last_torn {d : Dk} {n : Nat} {x : DOp} (h3 : x.do_ ≠ 3) : (d.step n x).2.torn = if x.do_ = 1 then min (max x.c 0) 32 else d.torn := by
  unfold Dk.step
  by_cases h1 : x.do_ = 1
  · rw [if_neg (by omega), if_pos h1, if_pos h1]; rfl
  · rw [if_neg h1]
    split
    · unfold Dk.write
      split <;> (try rfl)
      split <;> (try rfl)
      split <;> (try rfl)
      split <;> rfl
    · split
      · rfl
      · first | rfl | (split; first | contradiction | rfl)
theorem last_writes {d : Dk} {n : Nat} {x : DOp} (h0 : 0 ≤ d.writes) (h1 : d.writes ≤ 4611686018427387904) : d.writes ≤ (d.step n x).2.writes ∧ (d.step n x).2.writes ≤ d.writes + 1 := by
  have w : IntKind.i64.wrap (d.writes + 1) = d.writes + 1 := w64 (by omega) (by omega)
  have one : ∀ q : Int × Dk, q.2.writes = d.writes ∨ q.2.writes = d.writes + 1 → d.writes ≤ q.2.writes ∧ q.2.writes ≤ d.writes + 1 := fun q h => by omega
  apply one
  unfold Dk.step
  split
  · unfold Dk.write
    split
    · split
      · exact .inl rfl
      · split
        · exact .inl rfl
        · split
          · exact .inl rfl
          · exact .inr w
    · exact .inl rfl
  split
  · exact .inl rfl
  split
  · exact .inl rfl
  split
  · unfold Dk.turned
    split
    · exact .inl rfl
    · exact .inl rfl
  · exact .inl rfl
theorem new_sector {n k : Nat} (h : k < n) : (Dk.new n).sector k = List.replicate 32 0 := by
  simp [Dk.sector, Dk.new, List.drop_replicate, List.take_replicate, -List.reduceReplicate]
  omega
theorem last_spec (s : Int) (l : List DOp) (at_ : Int) (hl : l.length ≤ 140737488355328) (hb : ∀ x ∈ l, x.b.length ≤ 140737488355328) (ha : ∀ x ∈ l, x.a ≤ 9223372036854775807) :
    VC P 4 [.int .i64 s, .fs l.length (opsV l), .int .i64 at_] [] (fun r ob' => r = .bool true) := by
  refine VC_of_vwp_k ent_4 Try.func4 rfl (by simp [Try.ntmps4]) fun R hR => ?_
  refine vwp_seq_k fun K1 hK1 => ?_
  refine vwp_live [0, 1, 2] ?_
  try simp only [argSlots, pruneS, inN, eq_self, reduceIte, ite_true, Nat.reduceAdd, Nat.reduceBEq, Bool.or_true, Bool.true_or, Bool.or_false, Bool.false_or, if_true, if_false, Bool.false_eq_true]
  refine vwp_region hT ?_
  simp [-List.reduceReplicate, Dk.obs, Try.ntmps4]
  repeat refine ⟨by first | assumption | omega | (rw [spl_length (by simp; omega)]; simp; done) | (intros; omega), ?_⟩
  refine hK1 _ ?_
  try clear hK1 K1
  refine vwp_seq_k fun K2 hK2 => ?_
  refine vwp_seq_k fun K3 hK3 => ?_
  refine vwp_live [0, 1, 2] ?_
  try simp only [argSlots, pruneS, inN, eq_self, reduceIte, ite_true, Nat.reduceAdd, Nat.reduceBEq, Bool.or_true, Bool.true_or, Bool.or_false, Bool.false_or, if_true, if_false, Bool.false_eq_true]
  refine vwp_region hT ?_
  simp [-List.reduceReplicate, Dk.obs]
  refine vcall_by0 [] (awake_spec) (by simp) (by simp [Dk.obs, Dk.robs, Dk.two]) (by simp) (by simp [Dk.obs, Dk.robs, Dk.two]) ?_
  rintro r ob' ⟨rfl, rfl⟩
  simp [-List.reduceReplicate, Dk.obs]
  repeat refine ⟨by first | assumption | omega | (rw [spl_length (by simp; omega)]; simp; done) | (intros; omega), ?_⟩
  refine hK3 _ ?_
  try clear hK3 K3
  refine vwp_cond (by first | rfl | (simp; rfl)) (fun h1 => ?_) (fun h1 => ?_)
  · try (exfalso; simp at h1; done)
    all_goals
      try simp at h1
      refine vwp_seq_k fun K4 hK4 => ?_
      refine vwp_live [] ?_
      try simp only [argSlots, pruneS, inN, eq_self, reduceIte, ite_true, Nat.reduceAdd, Nat.reduceBEq, Bool.or_true, Bool.true_or, Bool.or_false, Bool.false_or, if_true, if_false, Bool.false_eq_true]
      refine vwp_region hT ?_
      simp [-List.reduceReplicate, Dk.obs]
      repeat refine ⟨by first | assumption | omega | (rw [spl_length (by simp; omega)]; simp; done) | (intros; omega), ?_⟩
      refine hK4 _ ?_
      try clear hK4 K4
      refine vwp_ret ?_
      try simp only [thenQ, inBlk]
      refine hR _ _ ?_
      refine ret_only [6] [] [] (by simp) (by simp) rfl (by simp) (r := .bool true) (by simp [Try.f4]) rfl
  · try (exfalso; simp at h1; done)
    all_goals
      try simp at h1
      refine vwp_skip ?_
      try simp only [thenQ, inBlk]
      refine hK2 _ ?_
      try clear hK2 K2
      refine vwp_seq_k fun K5 hK5 => ?_
      refine vwp_seq_k fun K6 hK6 => ?_
      refine vwp_live [0, 1, 2] ?_
      try simp only [argSlots, pruneS, inN, eq_self, reduceIte, ite_true, Nat.reduceAdd, Nat.reduceBEq, Bool.or_true, Bool.true_or, Bool.or_false, Bool.false_or, if_true, if_false, Bool.false_eq_true]
      refine vwp_region hT ?_
      simp [-List.reduceReplicate, Dk.obs]
      refine vcall_by0 [] (large_spec l hl hb) (by simp) (by simp [Dk.obs, Dk.robs, Dk.two]) (by simp) (by simp [Dk.obs, Dk.robs, Dk.two]) ?_
      rintro r ob' ⟨⟨v, rfl, hv⟩, rfl⟩
      simp [-List.reduceReplicate, Dk.obs]
      repeat refine ⟨by first | assumption | omega | (rw [spl_length (by simp; omega)]; simp; done) | (intros; omega), ?_⟩
      refine hK6 _ ?_
      try clear hK6 K6
      refine vwp_cond (by first | rfl | (simp; rfl)) (fun h2 => ?_) (fun h2 => ?_)
      · try (exfalso; simp at h2; done)
        all_goals
          try simp at h2
          refine vwp_seq_k fun K7 hK7 => ?_
          refine vwp_live [] ?_
          try simp only [argSlots, pruneS, inN, eq_self, reduceIte, ite_true, Nat.reduceAdd, Nat.reduceBEq, Bool.or_true, Bool.true_or, Bool.or_false, Bool.false_or, if_true, if_false, Bool.false_eq_true]
          refine vwp_region hT ?_
          simp [-List.reduceReplicate, Dk.obs]
          repeat refine ⟨by first | assumption | omega | (rw [spl_length (by simp; omega)]; simp; done) | (intros; omega), ?_⟩
          refine hK7 _ ?_
          try clear hK7 K7
          refine vwp_ret ?_
          try simp only [thenQ, inBlk]
          refine hR _ _ ?_
          refine ret_only [6] [] [] (by simp) (by simp) rfl (by simp) (r := .bool true) (by simp [Try.f4]) rfl
      · try (exfalso; simp at h2; done)
        all_goals
          try simp at h2
          refine vwp_skip ?_
          try simp only [thenQ, inBlk]
          refine hK5 _ ?_
          try clear hK5 K5
          refine vwp_seq_k fun K8 hK8 => ?_
          by_cases hs : 2 ≤ s ∧ s ≤ 4096
          · have hs64 : s ≤ 64 := by omega
            obtain ⟨n, rfl⟩ : ∃ n : Nat, s = n := ⟨s.toNat, by omega⟩
            have o0 : (Dk.new n).ok n := Dk.new_ok (by omega) (by omega)
            have hsm := hv h2.1
            refine vwp_live [0, 1, 2] ?_
            try simp only [argSlots, pruneS, inN, eq_self, reduceIte, ite_true, Nat.reduceAdd, Nat.reduceBEq, Bool.or_true, Bool.true_or, Bool.or_false, Bool.false_or, if_true, if_false, Bool.false_eq_true]
            refine vwp_region hT ?_
            simp [-List.reduceReplicate, Dk.obs]
            refine vcall_by0 [] (new_spec n) (by simp) (by simp [Dk.obs, Dk.robs, Dk.two]) (by simp) (by simp [Dk.obs, Dk.robs, Dk.two]) ?_
            intro r ob' hq
            rw [if_pos hs] at hq
            obtain ⟨rfl, rfl⟩ := hq
            simp [-List.reduceReplicate, Dk.obs]
            repeat refine ⟨by first | assumption | omega | (rw [spl_length (by simp; omega)]; simp; done) | (intros; omega), ?_⟩
            refine hK8 _ ?_
            try clear hK8 K8
            refine vwp_seq_k fun K9 hK9 => ?_
            refine vwp_seq_k fun K10 hK10 => ?_
            refine vwp_live [0, 1, 2, 7] ?_
            try simp only [argSlots, pruneS, inN, eq_self, reduceIte, ite_true, Nat.reduceAdd, Nat.reduceBEq, Bool.or_true, Bool.true_or, Bool.or_false, Bool.false_or, if_true, if_false, Bool.false_eq_true]
            refine vwp_region hT ?_
            simp [-List.reduceReplicate, Dk.obs]
            repeat refine ⟨by first | assumption | omega | (rw [spl_length (by simp; omega)]; simp; done) | (intros; omega), ?_⟩
            refine hK10 _ ?_
            try clear hK10 K10
            refine vwp_cond (by first | rfl | (simp; rfl)) (fun h3 => ?_) (fun h3 => ?_)
            · try (exfalso; simp at h3; done)
              all_goals
                try simp at h3
                refine vwp_seq_k fun K11 hK11 => ?_
                refine vwp_live [] ?_
                try simp only [argSlots, pruneS, inN, eq_self, reduceIte, ite_true, Nat.reduceAdd, Nat.reduceBEq, Bool.or_true, Bool.true_or, Bool.or_false, Bool.false_or, if_true, if_false, Bool.false_eq_true]
                refine vwp_region hT ?_
                simp [-List.reduceReplicate, Dk.obs]
                repeat refine ⟨by first | assumption | omega | (rw [spl_length (by simp; omega)]; simp; done) | (intros; omega), ?_⟩
                refine hK11 _ ?_
                try clear hK11 K11
                refine vwp_ret ?_
                try simp only [thenQ, inBlk]
                refine hR _ _ ?_
                refine ret_only [6] [] [] (by simp) (by simp) rfl (by simp) (r := .bool true) (by simp [Try.f4]) rfl
            · try (exfalso; simp at h3; done)
              all_goals
                try simp at h3
                refine vwp_skip ?_
                try simp only [thenQ, inBlk]
                refine hK9 _ ?_
                try clear hK9 K9
                refine vwp_seq_k fun K12 hK12 => ?_
                refine vwp_live [1, 2, 7] ?_
                try simp only [argSlots, pruneS, inN, eq_self, reduceIte, ite_true, Nat.reduceAdd, Nat.reduceBEq, Bool.or_true, Bool.true_or, Bool.or_false, Bool.false_or, if_true, if_false, Bool.false_eq_true]
                refine vwp_region hT ?_
                simp [-List.reduceReplicate, Dk.obs]
                repeat refine ⟨by first | assumption | omega | (rw [spl_length (by simp; omega)]; simp; done) | (intros; omega), ?_⟩
                refine hK12 _ ?_
                try clear hK12 K12
                refine vwp_seq_k fun K13 hK13 => ?_
                refine vwp_live [1, 2, 7, 9] ?_
                try simp only [argSlots, pruneS, inN, eq_self, reduceIte, ite_true, Nat.reduceAdd, Nat.reduceBEq, Bool.or_true, Bool.true_or, Bool.or_false, Bool.false_or, if_true, if_false, Bool.false_eq_true]
                refine vwp_region hT ?_
                simp [-List.reduceReplicate, Dk.obs]
                repeat refine ⟨by first | assumption | omega | (rw [spl_length (by simp; omega)]; simp; done) | (intros; omega), ?_⟩
                refine hK13 _ ?_
                try clear hK13 K13
                refine vwp_seq_k fun K14 hK14 => ?_
                refine vwp_seq_k fun K15 hK15 => ?_
                refine vwp_live [1, 2, 7, 9, 10] ?_
                try simp only [argSlots, pruneS, inN, eq_self, reduceIte, ite_true, Nat.reduceAdd, Nat.reduceBEq, Bool.or_true, Bool.true_or, Bool.or_false, Bool.false_or, if_true, if_false, Bool.false_eq_true]
                refine vwp_region hT ?_
                simp [-List.reduceReplicate, Dk.obs]
                repeat refine ⟨by first | assumption | omega | (rw [spl_length (by simp; omega)]; simp; done) | (intros; omega), ?_⟩
                refine hK15 _ ?_
                try clear hK15 K15
                refine vwp_block ?_
                obtain ⟨k, rfl⟩ : ∃ k : Nat, at_ = k := ⟨at_.toNat, by omega⟩
                have hk : k < n := by omega
                have hz : bts ((Dk.new n).sector k) = List.replicate 32 (.int .u8 0) := by rw [new_sector hk]; simp [-List.reduceReplicate]
                refine vwp_gh (st' := ⟨[(2, .int .i64 (k : Int)), (7, .ptr 0 5 0), (9, .sl 2 32 1 0 32), (10, .int .i64 (Dk.new n).torn), (45, .fs l.length (opsV l)), (46, .int .i64 (l.length : Int)), (47, .int .i64 0)], (Dk.new n).obs n ++ [.live (bts ((Dk.new n).sector k))]⟩) ?_ ?_
                · rw [hz]
                  refine Gh.to [2, 7, 9, 10, 45, 46, 47] [0, 1, 2] _ (_) ?_ ?_ rfl ?_ ?_
                  · simp
                  · simp [Dk.obs, hz, Dk.new, -List.reduceReplicate]
                  · simp
                  · simp [Dk.obs, hz, Dk.new, -List.reduceReplicate]
                refine vwp_loop_k (fun m st => ∃ (i : Nat) (d : Dk), d.ok n ∧ 0 ≤ d.writes ∧ d.writes ≤ i ∧ i ≤ l.length ∧ m = l.length - i ∧ st = ⟨[(2, .int .i64 (k : Int)), (7, .ptr 0 5 0), (9, .sl 2 32 1 0 32), (10, .int .i64 d.torn), (45, .fs l.length (opsV l)), (46, .int .i64 (l.length : Int)), (47, .int .i64 (i : Int))], d.obs n ++ [.live (bts (d.sector k))]⟩) l.length ⟨0, Dk.new n, o0, by simp [Dk.new], by simp [Dk.new], by omega, by simp, rfl⟩ ?_
                rintro m st ⟨i, d, hd, hw0, hw1, hi, rfl, rfl⟩
                intro K16 hK16
                refine vwp_seq_k fun K17 hK17 => ?_
                refine vwp_live [2, 7, 9, 10, 45, 46, 47] ?_
                try simp only [argSlots, pruneS, inN, eq_self, reduceIte, ite_true, Nat.reduceAdd, Nat.reduceBEq, Bool.or_true, Bool.true_or, Bool.or_false, Bool.false_or, if_true, if_false, Bool.false_eq_true]
                refine vwp_region hT ?_
                simp [-List.reduceReplicate, Dk.obs]
                repeat refine ⟨by first | assumption | omega | (rw [spl_length (by simp; omega)]; simp; done) | (intros; omega), ?_⟩
                refine hK17 _ ?_
                try clear hK17 K17
                refine vwp_seq_k fun K18 hK18 => ?_
                refine vwp_cond (by first | rfl | (simp; rfl)) (fun h4 => ?_) (fun h4 => ?_)
                · try (exfalso; simp at h4; done)
                  all_goals
                    try simp at h4
                    refine vwp_skip ?_
                    try simp only [thenQ, inBlk]
                    refine hK18 _ ?_
                    try clear hK18 K18
                    refine vwp_cut_k (fun st => ∃ d2 : Dk, d2.ok n ∧ 0 ≤ d2.writes ∧ d2.writes ≤ i + 1 ∧ Gh ⟨Try.f4.ntmps, 0⟩ st ⟨[(2, .int .i64 (k : Int)), (7, .ptr 0 5 0), (9, .sl 2 32 1 0 32), (10, .int .i64 d2.torn), (45, .fs l.length (opsV l)), (46, .int .i64 (l.length : Int)), (47, .int .i64 (i : Int))], d2.obs n ++ [.live (bts (d2.sector k))]⟩) (fun K19 hK19 => ?_) ?_
                    · refine vwp_block ?_
                      refine vwp_seq_k fun K20 hK20 => ?_
                      obtain ⟨x, hx⟩ : ∃ x, l[i]? = some x := ⟨_, List.getElem?_eq_getElem (by omega)⟩
                      have hxb := hb x (List.mem_of_getElem? hx)
                      have hxa := ha x (List.mem_of_getElem? hx)
                      have hdr := opsV_drop hx
                      refine vwp_live [2, 7, 9, 10, 45, 46, 47] ?_
                      try simp only [argSlots, pruneS, inN, eq_self, reduceIte, ite_true, Nat.reduceAdd, Nat.reduceBEq, Bool.or_true, Bool.true_or, Bool.or_false, Bool.false_or, if_true, if_false, Bool.false_eq_true]
                      refine vwp_region hT ?_
                      simp [-List.reduceReplicate, Dk.obs, hdr, opsV_length]
                      repeat refine ⟨by first | assumption | omega | (rw [spl_length (by simp; omega)]; simp; done) | (intros; omega), ?_⟩
                      refine hK20 _ ?_
                      try clear hK20 K20
                      refine vwp_seq_k fun K21 hK21 => ?_
                      refine vwp_seq_k fun K22 hK22 => ?_
                      refine vwp_live [2, 7, 9, 10, 12, 45, 46, 47] ?_
                      try simp only [argSlots, pruneS, inN, eq_self, reduceIte, ite_true, Nat.reduceAdd, Nat.reduceBEq, Bool.or_true, Bool.true_or, Bool.or_false, Bool.false_or, if_true, if_false, Bool.false_eq_true]
                      refine vwp_region hT ?_
                      simp [-List.reduceReplicate, Dk.obs]
                      repeat refine ⟨by first | assumption | omega | (rw [spl_length (by simp; omega)]; simp; done) | (intros; omega), ?_⟩
                      refine hK22 _ ?_
                      try clear hK22 K22
                      refine vwp_cond (by first | rfl | (simp; rfl)) (fun h5 => ?_) (fun h5 => ?_)
                      · try (exfalso; simp at h5; done)
                        all_goals
                          try simp at h5
                          refine vwp_exit ?_
                          simp only [inBlk, thenQ, if_true]
                          refine hK19 _ ?_
                          refine ⟨d, hd, by omega, by omega, ?_⟩
                          refine Gh.to [2, 7, 9, 10, 45, 46, 47] [0, 1, 2] _ (_) ?_ ?_ rfl ?_ ?_
                          · simp
                          · simp [Dk.obs]
                          · simp
                          · simp [Dk.obs]
                      · try (exfalso; simp at h5; done)
                        all_goals
                          try simp at h5
                          have h33 : x.do_ ≠ 3 := h5
                          refine vwp_skip ?_
                          try simp only [thenQ, inBlk]
                          refine hK21 _ ?_
                          try clear hK21 K21
                          refine vwp_seq_k fun K23 hK23 => ?_
                          refine vwp_live [2, 7, 9, 10, 12, 45, 46, 47] ?_
                          try simp only [argSlots, pruneS, inN, eq_self, reduceIte, ite_true, Nat.reduceAdd, Nat.reduceBEq, Bool.or_true, Bool.true_or, Bool.or_false, Bool.false_or, if_true, if_false, Bool.false_eq_true]
                          refine vwp_region hT ?_
                          simp [-List.reduceReplicate, Dk.obs]
                          refine vcall_by0 [0, 1] (writes_spec d n) (by simp) (by simp [Dk.obs, Dk.robs, Dk.two]) (by simp) (by simp [Dk.obs, Dk.robs, Dk.two]) ?_
                          rintro r ob' ⟨rfl, rfl⟩
                          simp [-List.reduceReplicate, Dk.obs]
                          repeat refine ⟨by first | assumption | omega | (rw [spl_length (by simp; omega)]; simp; done) | (intros; omega), ?_⟩
                          refine hK23 _ ?_
                          try clear hK23 K23
                          refine vwp_seq_k fun K24 hK24 => ?_
                          refine vwp_live [2, 7, 9, 10, 12, 13, 45, 46, 47] ?_
                          try simp only [argSlots, pruneS, inN, eq_self, reduceIte, ite_true, Nat.reduceAdd, Nat.reduceBEq, Bool.or_true, Bool.true_or, Bool.or_false, Bool.false_or, if_true, if_false, Bool.false_eq_true]
                          refine vwp_region hT ?_
                          simp [-List.reduceReplicate, Dk.obs]
                          refine vcall_by0 [0, 1] (do_spec d n hd x) (by simp) (by simp [Dk.obs, Dk.robs, Dk.two]) (by simp) (by simp [Dk.obs, Dk.robs, Dk.two]) ?_
                          rintro r ob' ⟨rfl, rfl⟩
                          simp [-List.reduceReplicate, Dk.obs]
                          refine hK24 _ ?_
                          have hd2 := Dk.step_ok (n := n) hd x hxa
                          have hlw := last_writes (n := n) (x := x) hw0 (by have := hsm.1; omega)
                          have hto := last_torn (n := n) (d := d) (x := x) h33
                          have hot := fun h => last_other (n := n) (d := d) hd hk h33 h
                          have hlr := fun h0 ha hb => last_write (n := n) (d := d) (x := x) hd hk h0 ha hb
                          generalize d.step n x = q at hd2 hlw hto hot hlr ⊢
                          obtain ⟨e, d2⟩ := q
                          dsimp only at hd2 hlw hto hot hlr ⊢
                          try clear hK24 K24
                          refine vwp_cut_k (fun st => Gh ⟨Try.f4.ntmps, 0⟩ st ⟨[(2, .int .i64 (k : Int)), (7, .ptr 0 5 0), (9, .sl 2 32 1 0 32), (10, .int .i64 d2.torn), (12, .ptr 3 4 0), (13, .int .i64 d.writes), (14, .int .i64 e), (45, .fs l.length (opsV l)), (46, .int .i64 (l.length : Int)), (47, .int .i64 (i : Int))], d2.obs n ++ [.live (bts (d.sector k)), .live x.cells]⟩) (fun K25 hK25 => ?_) ?_
                          · refine vwp_seq_k fun K26 hK26 => ?_
                            refine vwp_live [2, 7, 9, 10, 12, 13, 14, 45, 46, 47] ?_
                            try simp only [argSlots, pruneS, inN, eq_self, reduceIte, ite_true, Nat.reduceAdd, Nat.reduceBEq, Bool.or_true, Bool.true_or, Bool.or_false, Bool.false_or, if_true, if_false, Bool.false_eq_true]
                            refine vwp_region hT ?_
                            simp [-List.reduceReplicate, Dk.obs]
                            repeat refine ⟨by first | assumption | omega | (rw [spl_length (by simp; omega)]; simp; done) | (intros; omega), ?_⟩
                            refine hK26 _ ?_
                            try clear hK26 K26
                            refine vwp_cond (by first | rfl | (simp; rfl)) (fun h6 => ?_) (fun h6 => ?_)
                            · try (exfalso; simp at h6; done)
                              all_goals
                                try simp at h6
                                refine vwp_live [2, 7, 9, 12, 13, 14, 45, 46, 47] ?_
                                try simp only [argSlots, pruneS, inN, eq_self, reduceIte, ite_true, Nat.reduceAdd, Nat.reduceBEq, Bool.or_true, Bool.true_or, Bool.or_false, Bool.false_or, if_true, if_false, Bool.false_eq_true]
                                refine vwp_region hT ?_
                                simp [-List.reduceReplicate, Dk.obs]
                                repeat refine ⟨by first | assumption | omega | (rw [spl_length (by simp; omega)]; simp; done) | (intros; omega), ?_⟩
                                refine hK25 _ ?_
                                refine Gh.to [2, 7, 9, 10, 12, 13, 14, 45, 46, 47] [0, 1, 2, 3] _ (_) ?_ ?_ rfl ?_ ?_
                                · simp
                                · simp [Dk.obs]
                                · simp
                                · simp [Dk.obs]
                                  have ht : d2.torn = min (max x.c 0) 32 := hto.trans (if_pos (by assumption))
                                  rw [ht]
                                  (repeat' split) <;> omega
                            · try (exfalso; simp at h6; done)
                              all_goals
                                try simp at h6
                                refine vwp_skip ?_
                                try simp only [thenQ, inBlk]
                                refine hK25 _ ?_
                                refine Gh.to [2, 7, 9, 10, 12, 13, 14, 45, 46, 47] [0, 1, 2, 3] _ (_) ?_ ?_ rfl ?_ ?_
                                · simp
                                · simp [Dk.obs]
                                · simp
                                · simp [Dk.obs]
                                  rw [hto, if_neg (by assumption)]
                          · rintro st hg
                            refine vwp_gh hg ?_
                            clear hg
                            refine vwp_cut_k (fun st => Gh ⟨Try.f4.ntmps, 0⟩ st ⟨[(2, .int .i64 (k : Int)), (7, .ptr 0 5 0), (9, .sl 2 32 1 0 32), (10, .int .i64 d2.torn), (13, .int .i64 d.writes), (45, .fs l.length (opsV l)), (46, .int .i64 (l.length : Int)), (47, .int .i64 (i : Int))], d2.obs n ++ [.live (bts (d2.sector k))]⟩) (fun K27 hK27 => ?_) ?_
                            · refine vwp_seq_k fun K28 hK28 => ?_
                              refine vwp_live [2, 7, 9, 10, 12, 13, 14, 45, 46, 47] ?_
                              try simp only [argSlots, pruneS, inN, eq_self, reduceIte, ite_true, Nat.reduceAdd, Nat.reduceBEq, Bool.or_true, Bool.true_or, Bool.or_false, Bool.false_or, if_true, if_false, Bool.false_eq_true]
                              refine vwp_region hT ?_
                              simp [-List.reduceReplicate, Dk.obs]
                              repeat refine ⟨by first | assumption | omega | (rw [spl_length (by simp; omega)]; simp; done) | (intros; omega), ?_⟩
                              refine hK28 _ ?_
                              try clear hK28 K28
                              refine vwp_cond (by first | rfl | (simp; rfl)) (fun h7 => ?_) (fun h7 => ?_)
                              · try (exfalso; simp at h7; done)
                                all_goals
                                  try simp at h7
                                  refine vwp_seq_k fun K29 hK29 => ?_
                                  have hbl : x.b.length ≤ 32 := by omega
                                  have w1 : IntKind.i64.wrap (32 - (x.b.length : Int)) = 32 - x.b.length := w64 (by omega) (by omega)
                                  have w2 : x.b.length + (32 - x.b.length) = 32 := by omega
                                  have hpd : List.map (V.int .u8) x.b ++ List.replicate (32 - x.b.length) (V.int .u8 0) = bts (pad x.b) := by simp [pad, -List.reduceReplicate]
                                  have hl2 := hlr (by omega) (by omega) hbl
                                  have hpl := pad_length hbl
                                  have hsl := sector_length (a := k) hd (by omega) (by omega)
                                  have hsl2 := sector_length (a := k) hd2 (by omega) (by omega)
                                  simp only [Int.toNat_natCast] at hsl hsl2
                                  have ht2 : d2.torn = d.torn := hto.trans (if_neg (by omega))
                                  have ht0 := hd2.t0
                                  have ht1 := hd2.t1
                                  refine vwp_live [2, 7, 9, 10, 12, 13, 14, 45, 46, 47] ?_
                                  try simp only [argSlots, pruneS, inN, eq_self, reduceIte, ite_true, Nat.reduceAdd, Nat.reduceBEq, Bool.or_true, Bool.true_or, Bool.or_false, Bool.false_or, if_true, if_false, Bool.false_eq_true]
                                  refine vwp_storm hT hm [.mv, .win 0 1, .win 0 1, .mv, .win 0 2, .win 0 2, .win 0 2, .win 0 2, .mv, .pure] [[], [], [1], [0, 1, 2], [], [4], [4, 5], [4, 5, 6], [0, 1, 2, 3, 4, 5, 6, 7], [0, 1, 2, 3, 4, 5, 6, 7, 8]] (by kernel_rfl) ?_
                                  simp [-List.reduceReplicate, Dk.obs, w1, w2]
                                  repeat refine ⟨by omega, ?_⟩
                                  refine hK29 _ ?_
                                  refine vwp_gh (st' := ⟨[(2, .int .i64 (k : Int)), (7, .ptr 0 5 0), (9, .sl 2 32 1 0 32), (10, .int .i64 d2.torn), (13, .int .i64 d.writes), (14, .int .i64 e), (15, .sl 3 32 1 0 32), (45, .fs l.length (opsV l)), (46, .int .i64 (l.length : Int)), (47, .int .i64 (i : Int))], d2.obs n ++ [.live (bts (d.sector k)), .live (bts (pad x.b))]⟩) ?_ ?_
                                  · refine Gh.to [2, 7, 9, 10, 13, 14, 15, 45, 46, 47] [0, 1, 2, 4] _ (_) ?_ ?_ rfl ?_ ?_
                                    · simp
                                    · simp [Dk.obs, w2, hpd, -List.reduceReplicate]
                                    · simp
                                    · simp [Dk.obs, w2, hpd, -List.reduceReplicate]
                                  try clear hK29 K29
                                  refine vwp_seq_k fun K30 hK30 => ?_
                                  refine vwp_seq_k fun K31 hK31 => ?_
                                  refine vwp_live [2, 7, 9, 10, 13, 14, 15, 45, 46, 47] ?_
                                  try simp only [argSlots, pruneS, inN, eq_self, reduceIte, ite_true, Nat.reduceAdd, Nat.reduceBEq, Bool.or_true, Bool.true_or, Bool.or_false, Bool.false_or, if_true, if_false, Bool.false_eq_true]
                                  refine vwp_region hT ?_
                                  simp [-List.reduceReplicate, Dk.obs]
                                  repeat refine ⟨by first | assumption | omega | (rw [spl_length (by simp; omega)]; simp; done) | (intros; omega), ?_⟩
                                  refine hK31 _ ?_
                                  try clear hK31 K31
                                  refine vwp_cond (by first | rfl | (simp; rfl)) (fun h8 => ?_) (fun h8 => ?_)
                                  · try (exfalso; simp at h8; done)
                                    all_goals
                                      try simp at h8
                                      obtain rfl : e = 0 := h8
                                      have hsec : d2.sector k = pad x.b := by
                                        rcases hl2 with ⟨_, q⟩ | ⟨q, _⟩
                                        · exact q
                                        · omega
                                      refine vwp_live [2, 7, 10, 13, 14, 15, 45, 46, 47] ?_
                                      try simp only [argSlots, pruneS, inN, eq_self, reduceIte, ite_true, Nat.reduceAdd, Nat.reduceBEq, Bool.or_true, Bool.true_or, Bool.or_false, Bool.false_or, if_true, if_false, Bool.false_eq_true]
                                      refine vwp_region hT ?_
                                      simp [-List.reduceReplicate, Dk.obs]
                                      repeat refine ⟨by first | assumption | omega | (rw [spl_length (by simp; omega)]; simp; done) | (intros; omega), ?_⟩
                                      refine hK30 _ ?_
                                      try clear hK30 K30
                                      refine vwp_seq_k fun K32 hK32 => ?_
                                      refine vwp_live [2, 7, 9, 10, 13, 14, 15, 45, 46, 47] ?_
                                      try simp only [argSlots, pruneS, inN, eq_self, reduceIte, ite_true, Nat.reduceAdd, Nat.reduceBEq, Bool.or_true, Bool.true_or, Bool.or_false, Bool.false_or, if_true, if_false, Bool.false_eq_true]
                                      refine vwp_region hT ?_
                                      simp [-List.reduceReplicate, Dk.obs]
                                      refine vcall_by0 [0, 1] (read_spec d2 n hd2 k) (by simp) (by simp [Dk.obs, Dk.robs, Dk.two]) (by simp) (by simp [Dk.obs, Dk.robs, Dk.two]) ?_
                                      intro r ob' hq
                                      rw [if_pos (by omega)] at hq
                                      obtain ⟨rfl, rfl⟩ := hq
                                      simp [-List.reduceReplicate, Dk.obs]
                                      repeat refine ⟨by first | assumption | omega | (rw [spl_length (by simp; omega)]; simp; done) | (intros; omega), ?_⟩
                                      refine hK32 _ ?_
                                      try clear hK32 K32
                                      refine vwp_seq_k fun K33 hK33 => ?_
                                      refine vwp_live [2, 7, 9, 10, 13, 14, 15, 16, 45, 46, 47] ?_
                                      try simp only [argSlots, pruneS, inN, eq_self, reduceIte, ite_true, Nat.reduceAdd, Nat.reduceBEq, Bool.or_true, Bool.true_or, Bool.or_false, Bool.false_or, if_true, if_false, Bool.false_eq_true]
                                      refine vwp_region hT ?_
                                      simp [-List.reduceReplicate, Dk.obs]
                                      repeat refine ⟨by first | assumption | omega | (rw [spl_length (by simp; omega)]; simp; done) | (intros; omega), ?_⟩
                                      refine hK33 _ ?_
                                      try clear hK33 K33
                                      refine vwp_cond (by first | rfl | (simp; rfl)) (fun h9 => ?_) (fun h9 => ?_)
                                      · try (exfalso; simp at h9; done)
                                        all_goals
                                          try simp at h9
                                          refine vwp_live [2, 7, 9, 10, 13, 15, 45, 46, 47] ?_
                                          try simp only [argSlots, pruneS, inN, eq_self, reduceIte, ite_true, Nat.reduceAdd, Nat.reduceBEq, Bool.or_true, Bool.true_or, Bool.or_false, Bool.false_or, if_true, if_false, Bool.false_eq_true]
                                          refine vwp_tail hT hm 0 (by kernel_rfl) ?_
                                          simp [-List.reduceReplicate, Dk.obs]
                                          repeat refine ⟨by first | assumption | omega | (rw [spl_length (by simp; omega)]; simp; done) | (intros; omega), ?_⟩
                                          refine hK27 _ ?_
                                          refine Gh.to [2, 7, 9, 10, 13, 45, 46, 47] [0, 1, 3] _ (_) ?_ ?_ rfl ?_ ?_
                                          · simp
                                          · simp [Dk.obs, hsec]
                                          · simp
                                          · simp [Dk.obs, hsec]
                                      · try (exfalso; simp at h9; done)
                                        all_goals
                                          try simp at h9
                                          refine vwp_skip ?_
                                          try simp only [thenQ, inBlk]
                                          refine hK27 _ ?_
                                          refine Gh.to [2, 7, 9, 10, 13, 45, 46, 47] [0, 1, 3] _ (_) ?_ ?_ rfl ?_ ?_
                                          · simp
                                          · simp [Dk.obs, hsec]
                                          · simp
                                          · simp [Dk.obs, hsec]
                                  · try (exfalso; simp at h8; done)
                                    all_goals
                                      try simp at h8
                                      obtain ⟨rfl, hor⟩ : e = 7 ∧ (d2.sector k = d.sector k ∨ d2.sector k = (pad x.b).take d.torn.toNat ++ (d.sector k).drop d.torn.toNat) := by
                                        rcases hl2 with ⟨q, _⟩ | q
                                        · exact absurd q h8
                                        · exact q
                                      refine vwp_skip ?_
                                      try simp only [thenQ, inBlk]
                                      refine hK30 _ ?_
                                      try clear hK30 K30
                                      refine vwp_seq_k fun K34 hK34 => ?_
                                      refine vwp_live [2, 7, 9, 10, 13, 14, 15, 45, 46, 47] ?_
                                      try simp only [argSlots, pruneS, inN, eq_self, reduceIte, ite_true, Nat.reduceAdd, Nat.reduceBEq, Bool.or_true, Bool.true_or, Bool.or_false, Bool.false_or, if_true, if_false, Bool.false_eq_true]
                                      refine vwp_region hT ?_
                                      simp [-List.reduceReplicate, Dk.obs]
                                      refine vcall_by0 [0, 1] (read_spec d2 n hd2 k) (by simp) (by simp [Dk.obs, Dk.robs, Dk.two]) (by simp) (by simp [Dk.obs, Dk.robs, Dk.two]) ?_
                                      intro r ob' hq
                                      rw [if_pos (by omega)] at hq
                                      obtain ⟨rfl, rfl⟩ := hq
                                      simp [-List.reduceReplicate, Dk.obs]
                                      repeat refine ⟨by first | assumption | omega | (rw [spl_length (by simp; omega)]; simp; done) | (intros; omega), ?_⟩
                                      refine hK34 _ ?_
                                      try clear hK34 K34
                                      refine vwp_seq_k fun K35 hK35 => ?_
                                      have htk1 : List.take 32 (List.map (V.int .u8) (d2.sector k)) = bts (d2.sector k) := List.take_of_length_le (by simp [hsl2])
                                      have htk2 : List.take 32 (List.map (V.int .u8) (d.sector k)) = bts (d.sector k) := List.take_of_length_le (by simp [hsl])
                                      refine vwp_live [2, 7, 9, 10, 13, 14, 15, 16, 45, 46, 47] ?_
                                      try simp only [argSlots, pruneS, inN, eq_self, reduceIte, ite_true, Nat.reduceAdd, Nat.reduceBEq, Bool.or_true, Bool.true_or, Bool.or_false, Bool.false_or, if_true, if_false, Bool.false_eq_true]
                                      refine vwp_region hT ?_
                                      simp [-List.reduceReplicate, Dk.obs]
                                      refine vcall_by [] true (same_spec (d2.sector k) (d.sector k) (by omega) (by omega)) (by simp) (by simp) (by simp [hsl, hsl2, htk1, htk2]) (by simp [hsl, hsl2]) ?_
                                      rintro r ob' ⟨rfl, rfl⟩
                                      simp [-List.reduceReplicate, Dk.obs]
                                      repeat refine ⟨by first | assumption | omega | (rw [spl_length (by simp; omega)]; simp; done) | (intros; omega), ?_⟩
                                      refine hK35 _ ?_
                                      try clear hK35 K35
                                      refine vwp_cond (by first | rfl | (simp; rfl)) (fun h10 => ?_) (fun h10 => ?_)
                                      · try (exfalso; simp at h10; done)
                                        all_goals
                                          try simp at h10
                                          have q8 : d2.sector k ≠ d.sector k := h10
                                          have hor2 := hor.resolve_left q8
                                          by_cases htn : d2.torn < 32
                                          · have e1 : min d2.torn.toNat 32 = d2.torn.toNat := by omega
                                            have e2 : min (32 - d2.torn.toNat) ((d.sector k).length - d2.torn.toNat) = 32 - d2.torn.toNat := by omega
                                            have e3 : d2.torn.toNat + (32 - d2.torn.toNat) = 32 := by omega
                                            have hW : List.take d2.torn.toNat (bts (pad x.b)) ++ List.take (32 - d2.torn.toNat) (List.drop d2.torn.toNat (bts (d.sector k))) = bts (d2.sector k) := by
                                              rw [hor2, ht2, List.take_of_length_le (l := List.drop _ _) (by simp [hsl, ht2])]
                                              simp [List.map_take, List.map_drop]
                                            refine vwp_live [2, 7, 9, 10, 13, 15, 45, 46, 47] ?_
                                            try simp only [argSlots, pruneS, inN, eq_self, reduceIte, ite_true, Nat.reduceAdd, Nat.reduceBEq, Bool.or_true, Bool.true_or, Bool.or_false, Bool.false_or, if_true, if_false, Bool.false_eq_true]
                                            refine vwp_storm hT hm [.mv, .pure, .pure, .win 0 1, .mv, .pure, .pure, .win 0 2, .mv, .pure] [[], [], [], [1, 2], [0, 1, 2, 3], [], [], [5, 6], [0, 1, 2, 3, 4, 5, 6, 7], [0, 1, 2, 3, 4, 5, 6, 7, 8]] (by kernel_rfl) ?_
                                            simp [-List.reduceReplicate, Dk.obs, vsub_lt htn]
                                            repeat refine ⟨by first | assumption | omega | (rw [spl_length (by simp; omega)]; simp; done) | (intros; omega), ?_⟩
                                            refine hK27 _ ?_
                                            show Gh _ _ _
                                            refine Gh.to [2, 7, 9, 10, 13, 45, 46, 47] [0, 1, 5] _ (_) ?_ ?_ rfl ?_ ?_
                                            · simp
                                            · simp [Dk.obs, e1, e2, e3, hW, hpl]
                                            · simp
                                            · simp [Dk.obs, e1, e2, e3, hW, hpl]
                                          · have htn2 : d2.torn = 32 := by omega
                                            have e1 : min d2.torn.toNat (pad x.b).length = 32 := by omega
                                            have e2 : d2.torn.toNat = 32 := by omega
                                            have e3 : d.torn.toNat = 32 := by omega
                                            have hW : List.take 32 (bts (pad x.b)) = bts (d2.sector k) := by
                                              rw [hor2, e3, List.drop_eq_nil_of_le (by omega), List.append_nil]
                                              simp [List.map_take]
                                            refine vwp_live [2, 7, 9, 10, 13, 15, 45, 46, 47] ?_
                                            try simp only [argSlots, pruneS, inN, eq_self, reduceIte, ite_true, Nat.reduceAdd, Nat.reduceBEq, Bool.or_true, Bool.true_or, Bool.or_false, Bool.false_or, if_true, if_false, Bool.false_eq_true]
                                            refine vwp_storm hT hm [.mv, .pure, .pure, .win 0 1, .mv, .pure, .pure, .win 0 2, .mv, .pure] [[], [], [], [1, 2], [0, 1, 2, 3], [], [], [5, 6], [0, 1, 2, 3, 4, 5, 6, 7], [0, 1, 2, 3, 4, 5, 6, 7, 8]] (by kernel_rfl) ?_
                                            simp [-List.reduceReplicate, Dk.obs, vsub_ge htn]
                                            repeat refine ⟨by first | assumption | omega | (rw [spl_length (by simp; omega)]; simp; done) | (intros; omega), ?_⟩
                                            refine hK27 _ ?_
                                            show Gh _ _ _
                                            refine Gh.to [2, 7, 9, 10, 13, 45, 46, 47] [0, 1, 5] _ (_) ?_ ?_ rfl ?_ ?_
                                            · simp
                                            · simp [Dk.obs, e1, e2, e3, hW, hpl]
                                            · simp
                                            · simp [Dk.obs, e1, e2, e3, hW, hpl]
                                      · try (exfalso; simp at h10; done)
                                        all_goals
                                          try simp at h10
                                          have q8 : d2.sector k = d.sector k := h10
                                          refine vwp_skip ?_
                                          try simp only [thenQ, inBlk]
                                          refine hK27 _ ?_
                                          refine Gh.to [2, 7, 9, 10, 13, 45, 46, 47] [0, 1, 2] _ (_) ?_ ?_ rfl ?_ ?_
                                          · simp
                                          · simp [Dk.obs, q8]
                                          · simp
                                          · simp [Dk.obs, q8]
                              · try (exfalso; simp at h7; done)
                                all_goals
                                  try simp at h7
                                  have q9 : d2.sector k = d.sector k := hot (by
                                    intro q
                                    have := h7 q.1 q.2.1
                                    have := q.2.2
                                    omega)
                                  refine vwp_skip ?_
                                  try simp only [thenQ, inBlk]
                                  refine hK27 _ ?_
                                  refine Gh.to [2, 7, 9, 10, 13, 45, 46, 47] [0, 1, 2] _ (_) ?_ ?_ rfl ?_ ?_
                                  · simp
                                  · simp [Dk.obs, q9]
                                  · simp
                                  · simp [Dk.obs, q9]
                            · rintro st hg
                              refine vwp_gh hg ?_
                              clear hg
                              refine vwp_seq_k fun K36 hK36 => ?_
                              refine vwp_live [2, 7, 9, 10, 13, 45, 46, 47] ?_
                              try simp only [argSlots, pruneS, inN, eq_self, reduceIte, ite_true, Nat.reduceAdd, Nat.reduceBEq, Bool.or_true, Bool.true_or, Bool.or_false, Bool.false_or, if_true, if_false, Bool.false_eq_true]
                              refine vwp_region hT ?_
                              simp [-List.reduceReplicate, Dk.obs]
                              refine vcall_by0 [0, 1] (read_spec d2 n hd2 k) (by simp) (by simp [Dk.obs, Dk.robs, Dk.two]) (by simp) (by simp [Dk.obs, Dk.robs, Dk.two]) ?_
                              intro r ob' hq
                              rw [if_pos (by omega)] at hq
                              obtain ⟨rfl, rfl⟩ := hq
                              simp [-List.reduceReplicate, Dk.obs]
                              repeat refine ⟨by first | assumption | omega | (rw [spl_length (by simp; omega)]; simp; done) | (intros; omega), ?_⟩
                              refine hK36 _ ?_
                              try clear hK36 K36
                              refine vwp_seq_k fun K37 hK37 => ?_
                              have hsl2 := sector_length (a := k) hd2 (by omega) (by omega)
                              simp only [Int.toNat_natCast] at hsl2
                              have htk1 : List.take 32 (List.map (V.int .u8) (d2.sector k)) = bts (d2.sector k) := List.take_of_length_le (by simp [hsl2])
                              have hnl : ¬ d2.writes < d.writes := by omega
                              refine vwp_live [2, 7, 9, 10, 13, 18, 19, 45, 46, 47] ?_
                              try simp only [argSlots, pruneS, inN, eq_self, reduceIte, ite_true, Nat.reduceAdd, Nat.reduceBEq, Bool.or_true, Bool.true_or, Bool.or_false, Bool.false_or, if_true, if_false, Bool.false_eq_true]
                              refine vwp_region hT ?_
                              simp [-List.reduceReplicate, Dk.obs, hnl]
                              refine vcall_by [] true (same_spec (d2.sector k) (d2.sector k) (by omega) (by omega)) (by simp) (by simp) (by simp [hsl2, htk1]) (by simp [hsl2]) ?_
                              rintro r ob' ⟨rfl, rfl⟩
                              simp [-List.reduceReplicate, Dk.obs, hnl]
                              refine vcall_by0 [0, 1] (writes_spec d2 n) (by simp) (by simp [Dk.obs, Dk.robs, Dk.two]) (by simp) (by simp [Dk.obs, Dk.robs, Dk.two]) ?_
                              rintro r ob' ⟨rfl, rfl⟩
                              simp [-List.reduceReplicate, Dk.obs, hnl]
                              repeat refine ⟨by first | assumption | omega | (rw [spl_length (by simp; omega)]; simp; done) | (intros; omega), ?_⟩
                              refine hK37 _ ?_
                              try clear hK37 K37
                              refine vwp_cond (by first | rfl | (simp; rfl)) (fun h11 => ?_) (fun h11 => ?_)
                              · try (exfalso; simp at h11; done)
                                all_goals
                                  try simp at h11
                                  refine vwp_seq_k fun K38 hK38 => ?_
                                  refine vwp_live [] ?_
                                  try simp only [argSlots, pruneS, inN, eq_self, reduceIte, ite_true, Nat.reduceAdd, Nat.reduceBEq, Bool.or_true, Bool.true_or, Bool.or_false, Bool.false_or, if_true, if_false, Bool.false_eq_true]
                                  refine vwp_region hT ?_
                                  simp [-List.reduceReplicate, Dk.obs]
                                  repeat refine ⟨by first | assumption | omega | (rw [spl_length (by simp; omega)]; simp; done) | (intros; omega), ?_⟩
                                  refine hK38 _ ?_
                                  try clear hK38 K38
                                  refine vwp_ret ?_
                                  try simp only [thenQ, inBlk]
                                  refine hR _ _ ?_
                                  refine ret_only [6] [] [] (by simp) (by simp) rfl (by simp) (r := .bool true) (by simp [Try.f4]) rfl
                              · try (exfalso; simp at h11; done)
                                all_goals
                                  try simp at h11
                                  refine vwp_skip ?_
                                  try simp only [thenQ, inBlk]
                                  refine hK19 _ ?_
                                  refine ⟨d2, hd2, by omega, by omega, ?_⟩
                                  refine Gh.to [2, 7, 9, 10, 45, 46, 47] [0, 1, 2] _ (_) ?_ ?_ rfl ?_ ?_
                                  · simp
                                  · simp [Dk.obs]
                                  · simp
                                  · simp [Dk.obs]
                    · rintro st ⟨d2, hd2, hv0, hv1, hg⟩
                      refine vwp_gh hg ?_
                      refine vwp_live [2, 7, 9, 10, 45, 46, 47] ?_
                      try simp only [argSlots, pruneS, inN, eq_self, reduceIte, ite_true, Nat.reduceAdd, Nat.reduceBEq, Bool.or_true, Bool.true_or, Bool.or_false, Bool.false_or, if_true, if_false, Bool.false_eq_true]
                      refine vwp_region hT ?_
                      simp [-List.reduceReplicate, Dk.obs]
                      repeat refine ⟨by first | assumption | omega | (rw [spl_length (by simp; omega)]; simp; done) | (intros; omega), ?_⟩
                      refine hK16 _ ?_
                      refine ⟨_, Gh.to [2, 7, 9, 10, 45, 46, 47] [0, 1, 2] [(2, .int .i64 (k : Int)), (7, .ptr 0 5 0), (9, .sl 2 32 1 0 32), (10, .int .i64 d2.torn), (45, .fs l.length (opsV l)), (46, .int .i64 (l.length : Int)), (47, .int .i64 ((i + 1 : Nat) : Int))] (d2.obs n ++ [.live (bts (d2.sector k))]) (by simp) (by simp [Dk.obs]) rfl (by simp) (by simp; exact w64 (by omega) (by omega)), l.length - (i + 1), by omega, i + 1, d2, hd2, hv0, by omega, by omega, rfl, rfl⟩
                · try (exfalso; simp at h4; done)
                  all_goals
                    try simp at h4
                    refine vwp_exit ?_
                    simp only [inBlk, thenQ, if_true]
                    refine hK14 _ ?_
                    try clear hK14 K14
                    refine vwp_seq_k fun K39 hK39 => ?_
                    refine vwp_live [] ?_
                    try simp only [argSlots, pruneS, inN, eq_self, reduceIte, ite_true, Nat.reduceAdd, Nat.reduceBEq, Bool.or_true, Bool.true_or, Bool.or_false, Bool.false_or, if_true, if_false, Bool.false_eq_true]
                    refine vwp_region hT ?_
                    simp [-List.reduceReplicate, Dk.obs]
                    repeat refine ⟨by first | assumption | omega | (rw [spl_length (by simp; omega)]; simp; done) | (intros; omega), ?_⟩
                    refine hK39 _ ?_
                    try clear hK39 K39
                    refine vwp_ret ?_
                    try simp only [thenQ, inBlk]
                    refine hR _ _ ?_
                    refine ret_only [6] [] [] (by simp) (by simp) rfl (by simp) (r := .bool true) (by simp [Try.f4]) rfl
          · refine vwp_live [0, 1, 2] ?_
            try simp only [argSlots, pruneS, inN, eq_self, reduceIte, ite_true, Nat.reduceAdd, Nat.reduceBEq, Bool.or_true, Bool.true_or, Bool.or_false, Bool.false_or, if_true, if_false, Bool.false_eq_true]
            refine vwp_region hT ?_
            simp [-List.reduceReplicate, Dk.obs]
            refine vcall_by0 [] (new_spec s) (by simp) (by simp [Dk.obs, Dk.robs, Dk.two]) (by simp) (by simp [Dk.obs, Dk.robs, Dk.two]) ?_
            intro r ob' hq
            rw [if_neg hs] at hq
            obtain ⟨rfl, rfl⟩ := hq
            simp [-List.reduceReplicate, Dk.obs]
            repeat refine ⟨by first | assumption | omega | (rw [spl_length (by simp; omega)]; simp; done) | (intros; omega), ?_⟩
            refine hK8 _ ?_
            try clear hK8 K8
            refine vwp_seq_k fun K40 hK40 => ?_
            refine vwp_seq_k fun K41 hK41 => ?_
            refine vwp_live [0, 1, 2, 7] ?_
            try simp only [argSlots, pruneS, inN, eq_self, reduceIte, ite_true, Nat.reduceAdd, Nat.reduceBEq, Bool.or_true, Bool.true_or, Bool.or_false, Bool.false_or, if_true, if_false, Bool.false_eq_true]
            refine vwp_region hT ?_
            simp [-List.reduceReplicate, Dk.obs]
            repeat refine ⟨by first | assumption | omega | (rw [spl_length (by simp; omega)]; simp; done) | (intros; omega), ?_⟩
            refine hK41 _ ?_
            try clear hK41 K41
            refine vwp_cond (by first | rfl | (simp; rfl)) (fun h12 => ?_) (fun h12 => ?_)
            · try (exfalso; simp at h12; done)
              all_goals
                try simp at h12
                refine vwp_seq_k fun K42 hK42 => ?_
                refine vwp_live [] ?_
                try simp only [argSlots, pruneS, inN, eq_self, reduceIte, ite_true, Nat.reduceAdd, Nat.reduceBEq, Bool.or_true, Bool.true_or, Bool.or_false, Bool.false_or, if_true, if_false, Bool.false_eq_true]
                refine vwp_region hT ?_
                simp [-List.reduceReplicate, Dk.obs]
                repeat refine ⟨by first | assumption | omega | (rw [spl_length (by simp; omega)]; simp; done) | (intros; omega), ?_⟩
                refine hK42 _ ?_
                try clear hK42 K42
                refine vwp_ret ?_
                try simp only [thenQ, inBlk]
                refine hR _ _ ?_
                refine ret_only [6] [] [] (by simp) (by simp) rfl (by simp) (r := .bool true) (by simp [Try.f4]) rfl
            · try (exfalso; simp at h12; done)
              all_goals
                try simp at h12
                refine vwp_skip ?_
                try simp only [thenQ, inBlk]
                refine hK40 _ ?_
                try clear hK40 K40
                refine vwp_seq_k fun K43 hK43 => ?_
                skip
end Go.Proofs.Ytibhpkolbffdaaa
