/- Call by call, a log is as the document says. -/
import Derived.Test.YtifhbgppjblobaaL2M
namespace Go.Proofs.Ytifhbgppjblobaa
open Go Go.VX Go.RowKit
set_option linter.unusedVariables false
set_option linter.unusedSimpArgs false
set_option maxHeartbeats 20000000
set_option maxRecDepth 100000
/-- Rows that are not large. -/
def rowsOk (S : List (List Int)) : Prop := S.length < 1048576 ∧ ∀ b ∈ S, b.length < 1048576
theorem sumB_mem : ∀ {l : List DOp} {x : DOp}, x ∈ l → x.b.length ≤ sumB l
  | y :: l, x, h => by
    simp only [sumB, List.map_cons, List.sum_cons]
    rcases List.mem_cons.1 h with e | h
    · rw [e]; omega
    · have := sumB_mem h
      simp only [sumB] at this
      omega
theorem smallOps.mem {l : List DOp} (h : smallOps l) {x : DOp} (hx : x ∈ l) : x.b.length ≤ 1000 := by
  have := sumB_mem hx
  have := h.2
  omega
theorem manyL_mem {x : DOp} {b : List Int} (h : b ∈ manyL x) : b = x.b := by
  simp only [manyL, List.mem_replicate] at h
  exact h.2
theorem manyL_le (x : DOp) : (manyL x).length ≤ 4 := by rw [manyL_len]; omega
theorem manyL_ok {x : DOp} (h : x.b.length ≤ 1000) : rowsOk (manyL x) :=
  ⟨by have := manyL_le x; omega, fun b hb => by rw [manyL_mem hb]; omega⟩

def doesS (l : List DOp) (n : Nat) (i : Nat) (d : Dk) (j : Option Lg) (e : Int) : St :=
  match j with
  | none => ⟨[(1, .fs l.length (opsV l)), (5, .ptr 0 5 0), (7, .ptr 2 5 0), (9, .nilp), (10, .int .i64 e), (11, .nilp), (12, .int .i64 e), (13, .int .i64 (i : Int))], sobs4 d n⟩
  | some g => ⟨[(1, .fs l.length (opsV l)), (5, .ptr 0 5 0), (7, .ptr 4 5 0), (9, .ptr 2 6 0), (10, .int .i64 e), (11, .ptr 6 6 0), (12, .int .i64 e), (13, .int .i64 (i : Int))], sobs8 g d n⟩
theorem open_rnone {d d1 : Dk} {n : Nat} {e : Int} (hd : d.ok n) (hb : byteL d.B) (h : openL d n = (none, e, d1)) : VC P 21 [.ptr 0 5 0] d.robs (fun r ob' => r = .tup [.nilp, .int .i64 e] ∧ ob' = d1.robs) :=
  (open_ref d n hd hb).mono fun r ob' q => by
    unfold ropenQ at q
    rw [h] at q
    exact q
theorem open_rsome {d d1 : Dk} {n : Nat} {g : Lg} (hd : d.ok n) (hb : byteL d.B) (h : openL d n = (some g, 0, d1)) : VC P 21 [.ptr 0 5 0] d.robs (fun r ob' => r = .tup [.ptr 2 6 0, .int .i64 0] ∧ ob' = d1.robs ++ [rlogO 3 g, .live (g.rows.map sB)]) :=
  (open_ref d n hd hb).mono fun r ob' q => by
    unfold ropenQ at q
    rw [h] at q
    exact q
theorem rQ_ok {x : Int × Lg × Dk} {ob' : List Ob} (h0 : x.1 = 0) (q : rQ x ob') : ∃ old, ob' = [rlogP 4 x.2.1, dskR x.2.2, .live (bts x.2.2.B), .live old, .live (x.2.1.rows.map sB)] := by
  rcases q with ⟨_, q⟩ | ⟨q, _⟩
  · exact q
  · exact absurd h0 q
theorem rQ_bad {x : Int × Lg × Dk} {ob' : List Ob} (h0 : x.1 ≠ 0) (q : rQ x ob') : ob' = rlobs x.2.1 x.2.2 := by
  rcases q with ⟨q, _⟩ | ⟨_, q⟩
  · exact absurd q h0
  · exact q
theorem logDoes_spec (s : Int) (l : List DOp) (hl : l.length ≤ 140737488355328) (hb : ∀ x ∈ l, x.b.length ≤ 140737488355328 ∧ byteL x.b ∧ x.a ≤ 9223372036854775807) : VC P 5 [.int .i64 s, .fs l.length (opsV l)] [] (fun r ob' => r = .bool true) := by
  refine VC_of_vwp_k ent_5 Try.func5 rfl (by simp) fun R hR => ?_
  refine vwp_sq [0, 1] fun K1 hK1 => vwp_region hT ?_
  simp [Dk.obs, Dk.robs]
  refine hK1 _ ?_
  try clear hK1 K1
  refine vwp_seq_k fun K2 hK2 => ?_
  refine vwp_sq [0, 1] fun K3 hK3 => vwp_region hT ?_
  simp [Dk.obs, Dk.robs]
  refine vcall_k [] (awake_spec) ?_
  rintro r ob' ⟨rfl, rfl⟩
  simp [Dk.obs, Dk.robs]
  refine hK3 _ ?_
  try clear hK3 K3
  refine vwp_cond (by first | rfl | (simp; rfl)) (fun h1 => ?_) fun h1 => ?_
  · simp -failIfUnchanged at h1; all_goals
   refine vwp_seq_k fun K4 hK4 => ?_
   simp at *
  · simp -failIfUnchanged at h1; all_goals
   refine vwp_skip ?_
   refine hK2 _ ?_
   try clear hK2 K2
   refine vwp_seq_k fun K5 hK5 => ?_
   refine vwp_sq [0, 1] fun K6 hK6 => vwp_region hT ?_
   simp [Dk.obs, Dk.robs]
   refine vcall_k [] (large_spec l hl (fun x hx => (hb x hx).1)) ?_
   rintro r ob' ⟨⟨v, rfl, hv⟩, rfl⟩
   simp [Dk.obs, Dk.robs]
   refine hK6 _ ?_
   try clear hK6 K6
   refine vwp_cond (by first | rfl | (simp; rfl)) (fun h2 => ?_) fun h2 => ?_
   · simp -failIfUnchanged at h2; all_goals
    refine vwp_sq [] fun K7 hK7 => vwp_region hT ?_
    simp [Dk.obs, Dk.robs]
    refine hK7 _ ?_
    try clear hK7 K7
    refine vwp_ret (hR _ _ ?_)
    exact ret_k [4] [] [] (.bool true) rfl
   · simp -failIfUnchanged at h2; all_goals
    have q := h2
    have hsm := hv q.1
    refine vwp_skip ?_
    refine hK5 _ ?_
    try clear hK5 K5
    refine vwp_seq_k fun K8 hK8 => ?_
    by_cases hs : 2 ≤ s ∧ s ≤ 4096
    · obtain ⟨n, rfl⟩ : ∃ n : Nat, s = n := ⟨s.toNat, by omega⟩
      obtain ⟨D0, hD0⟩ : ∃ D0, D0 = Dk.new n := ⟨_, rfl⟩
      have hD0k : D0.ok n := hD0 ▸ Dk.new_ok (n := n) (by omega) (by omega)
      have hD0b : byteL D0.B := by rw [hD0]; exact byteL_zeros _
      refine vwp_live [0, 1] (vwp_region hT ?_)
      simp [Dk.obs, Dk.robs, ← hD0]
      refine vcall_k [] (new_spec (n : Int)) ?_
      rintro r ob' q2
      rw [if_pos (by omega)] at q2
      obtain ⟨rfl, rfl⟩ := q2
      simp [Dk.obs, Dk.robs, ← hD0]
      refine hK8 _ ?_
      try clear hK8 K8
      refine vwp_sq [0, 1, 5] fun K9 hK9 => vwp_region hT ?_
      simp [Dk.obs, Dk.robs, ← hD0]
      refine vcall_k [] (rnew_spec (n : Int)) ?_
      rintro r ob' q2
      rw [if_pos (by omega)] at q2
      obtain ⟨rfl, rfl⟩ := q2
      simp [Dk.obs, Dk.robs, ← hD0]
      refine hK9 _ ?_
      try clear hK9 K9
      refine vwp_seq_k fun K10 hK10 => ?_
      refine vwp_sq [1, 5, 7] fun K11 hK11 => vwp_region hT ?_
      simp [Dk.obs, Dk.robs]
      refine hK11 _ ?_
      try clear hK11 K11
      refine vwp_cond (by first | rfl | (simp; rfl)) (fun h3 => ?_) fun h3 => ?_
      · simp -failIfUnchanged at h3; all_goals
       refine vwp_seq_k fun K12 hK12 => ?_
       simp at *
      · simp -failIfUnchanged at h3; all_goals
       refine vwp_skip ?_
       refine hK10 _ ?_
       try clear hK10 K10
       refine vwp_seq_k fun K13 hK13 => ?_
       obtain ⟨q, hq⟩ : ∃ q, q = openL D0 n := ⟨_, rfl⟩
       obtain ⟨jo, eo, d2⟩ := q
       obtain ⟨hd2, hb2, hfo⟩ := open_fine hD0k hD0b hq
       rcases jo with _ | g2
       · have hon := open_none hD0k hD0b hq.symm
         have hro := open_rnone hD0k hD0b hq.symm
         refine vwp_live [1, 5, 7] (vwp_region hT ?_)
         simp [Dk.obs, Dk.robs]
         refine vcall_k [0, 1] (hon) ?_ (hh := by simp [Dk.obs])
         rintro r ob' ⟨rfl, rfl⟩
         simp [Dk.obs, Dk.robs]
         refine hK13 _ ?_
         try clear hK13 K13
         refine vwp_sq [1, 5, 7, 9, 10] fun K14 hK14 => vwp_region hT ?_
         simp [Dk.obs, Dk.robs]
         refine vcall_k [2, 3] (hro) ?_ (hh := by simp [Dk.robs])
         rintro r ob' ⟨rfl, rfl⟩
         simp [Dk.obs, Dk.robs]
         refine hK14 _ ?_
         try clear hK14 K14
         refine vwp_seq_k fun K15 hK15 => ?_
         refine vwp_cut_s (fun z : Dk × Option Lg × Int => doesS l n 0 z.1 z.2.1 z.2.2) (fun z => z.1.ok n ∧ byteL z.1.B ∧ ∀ g, z.2.1 = some g → g.fine n (4000 + 0)) (fun K16 hK16 => ?_) ?_
         · refine vwp_live [1, 5, 7, 9, 10, 11, 12] (vwp_region hT ?_)
           simp [Dk.obs, Dk.robs]
           exact hK16 (d2, none, eo) _ (Gh.to_k [1, 5, 7, 9, 10, 11, 12, 13] [0, 1, 2, 3] (hh := by simp [Dk.obs, Dk.robs])) (⟨hd2, hb2, fun g hg => by cases hg⟩)
         · rintro ⟨d, j, e⟩ ⟨hd, hbt, hf⟩
           dsimp only at hd hbt hf ⊢
           refine vwp_block ?_
           refine vwp_loop_s (fun u : Nat × Dk × Option Lg × Int => doesS l n u.1 u.2.1 u.2.2.1 u.2.2.2) (fun u => u.1 ≤ l.length ∧ u.2.1.ok n ∧ byteL u.2.1.B ∧ ∀ g, u.2.2.1 = some g → g.fine n (4000 + u.1)) (fun u => l.length - u.1) (0, d, j, e) (Gh.refl _ _) (⟨Nat.zero_le _, hd, hbt, hf⟩) ?_
           clear hd hbt hf
           rintro ⟨i, d, j, e⟩ ⟨hi, hd, hbt, hf⟩
           dsimp only at hi hd hbt hf ⊢
           intro K17 hK17
           refine vwp_seq_k fun K18 hK18 => ?_
           refine vwp_seq_k fun K19 hK19 => ?_
           rcases j with _ | g
           · dsimp only [doesS]
             refine vwp_live [1, 5, 7, 9, 10, 11, 12, 13] (vwp_region hT ?_)
             simp [Dk.obs, Dk.robs]
             refine hK19 _ ?_
             try clear hK19 K19
             refine vwp_cond (by first | rfl | (simp; rfl)) (fun h4 => ?_) fun h4 => ?_
             · simp -failIfUnchanged at h4; all_goals
              have q := h4
              obtain ⟨x, hx⟩ := getI (l := l) (i := i) (by omega)
              have hxm := List.mem_of_getElem? hx
              obtain ⟨hx1, hx2, hx3⟩ := hb x hxm
              have hx4 := hsm.mem hxm
              have hi40 := hsm.1
              have hdr := opsV_drop hx
              refine vwp_skip ?_
              refine hK18 _ ?_
              try clear hK18 K18
              refine vwp_seq_k fun K20 hK20 => ?_
              refine vwp_block ?_
              refine vwp_sq [1, 5, 7, 9, 10, 11, 12, 13] fun K21 hK21 => vwp_region hT ?_
              simp [Dk.obs, Dk.robs, hdr, opsV_length]
              repeat refine ⟨by first | assumption | omega | (intros; omega), ?_⟩
              refine hK21 _ ?_
              try clear hK21 K21
              refine vwp_cut_s (fun z : Dk × Option Lg × Int => doesS l n i z.1 z.2.1 z.2.2) (fun z => z.1.ok n ∧ byteL z.1.B ∧ ∀ g, z.2.1 = some g → g.fine n (4000 + (i + 1))) (fun K22 hK22 => ?_) ?_
              · refine vwp_block ?_
                refine vwp_seq_k fun K23 hK23 => ?_
                have hdoc : x.do_ = 2 ∨ x.do_ = 4 ∨ x.do_ = 0 ∨ x.do_ = 1 ∨ ((x.do_ == 0) = false ∧ (x.do_ == 1) = false ∧ (x.do_ == 2) = false ∧ (x.do_ == 4) = false) := by
                  simp only [beq_eq_false_iff_ne]
                  omega
                rcases hdoc with hdo | hdo | hdo | hdo | ⟨b0, b1, b2, b4⟩
                · refine vwp_live [1, 5, 7, 9, 10, 11, 12, 13, 14] (vwp_region hT ?_)
                  simp [Dk.obs, Dk.robs, hdo]
                  refine hK23 _ ?_
                  try clear hK23 K23
                  refine vwp_cond (by first | rfl | (simp; rfl)) (fun h5 => ?_) fun h5 => ?_
                  · simp -failIfUnchanged at h5; all_goals
                   refine vwp_sq [1, 5, 7, 9, 10, 11, 12, 13, 14] fun K24 hK24 => vwp_region hT ?_
                   simp [Dk.obs, Dk.robs, hdo]
                   refine vcall_k [0, 1] (fuse_spec d n x.a x.c) ?_ (hh := by simp [Dk.obs])
                   rintro r ob' ⟨rfl, rfl⟩
                   simp [Dk.obs, Dk.robs, hdo]
                   refine hK24 _ ?_
                   try clear hK24 K24
                   refine vwp_live [1, 5, 7, 9, 10, 11, 12, 13, 14] (vwp_region hT ?_)
                   simp [Dk.obs, Dk.robs, hdo]
                   refine vcall_k [2, 3] (rfuse_spec d x.a x.c) ?_ (hh := by simp [Dk.robs])
                   rintro r ob' ⟨rfl, rfl⟩
                   simp [Dk.obs, Dk.robs, hdo]
                   exact hK22 (d.fused x.a x.c, none, e) _ (Gh.to_k [1, 5, 7, 9, 10, 11, 12, 13] [0, 1, 2, 3] (hh := by simp [Dk.obs, Dk.robs])) (⟨Dk.fused_ok hd x.a x.c hx3, hbt, fun g hg => by cases hg⟩)
                  · simp -failIfUnchanged at h5; all_goals
                   refine vwp_seq_k fun K25 hK25 => ?_
                   simp at *
                · refine vwp_live [1, 5, 7, 9, 10, 11, 12, 13, 14] (vwp_region hT ?_)
                  simp [Dk.obs, Dk.robs, hdo]
                  refine hK23 _ ?_
                  try clear hK23 K23
                  refine vwp_cond (by first | rfl | (simp; rfl)) (fun h6 => ?_) fun h6 => ?_
                  · simp -failIfUnchanged at h6; all_goals
                   refine vwp_seq_k fun K26 hK26 => ?_
                   simp at *
                  · simp -failIfUnchanged at h6; all_goals
                   refine vwp_sq [1, 5, 7, 9, 10, 11, 12, 13, 14] fun K27 hK27 => vwp_region hT ?_
                   simp [Dk.obs, Dk.robs, hdo]
                   refine hK27 _ ?_
                   try clear hK27 K27
                   refine vwp_cond (by first | rfl | (simp; rfl)) (fun h7 => ?_) fun h7 => ?_
                   · simp -failIfUnchanged at h7; all_goals
                    have hts := turn_spec d n hd x.a (IntKind.u8.wrap x.c)
                    have hrs := rturn_spec d x.a (IntKind.u8.wrap x.c)
                    have htk := turn_ok hd hbt x.a (IntKind.u8.wrap x.c)
                    obtain ⟨tr, htr⟩ : ∃ tr, tr = d.turned x.a (IntKind.u8.wrap x.c) := ⟨_, rfl⟩
                    rw [← htr] at hts hrs htk
                    obtain ⟨te, d2⟩ := tr
                    dsimp only at hts hrs htk
                    refine vwp_sq [1, 5, 7, 9, 10, 11, 12, 13, 14] fun K28 hK28 => vwp_region hT ?_
                    simp [Dk.obs, Dk.robs, hdo]
                    repeat refine ⟨by first | assumption | omega | (intros; omega), ?_⟩
                    refine vcall_k [0, 1] (hts) ?_ (hh := by simp [Dk.obs])
                    rintro r ob' ⟨rfl, rfl⟩
                    simp [Dk.obs, Dk.robs, hdo]
                    repeat refine ⟨by first | assumption | omega | (intros; omega), ?_⟩
                    refine hK28 _ ?_
                    try clear hK28 K28
                    refine vwp_live [1, 5, 7, 9, 10, 11, 12, 13, 14] (vwp_region hT ?_)
                    simp [Dk.obs, Dk.robs, hdo]
                    repeat refine ⟨by first | assumption | omega | (intros; omega), ?_⟩
                    refine vcall_k [2, 3] (hrs) ?_ (hh := by simp [Dk.robs])
                    rintro r ob' ⟨rfl, rfl⟩
                    simp [Dk.obs, Dk.robs, hdo]
                    repeat refine ⟨by first | assumption | omega | (intros; omega), ?_⟩
                    exact hK22 (d2, none, e) _ (Gh.to_k [1, 5, 7, 9, 10, 11, 12, 13] [0, 1, 2, 3] (hh := by simp [Dk.obs, Dk.robs])) (⟨htk.1, htk.2, fun g hg => by cases hg⟩)
                   · simp -failIfUnchanged at h7; all_goals
                    refine vwp_seq_k fun K29 hK29 => ?_
                    simp at *
                · refine vwp_live [1, 5, 7, 9, 10, 11, 12, 13, 14] (vwp_region hT ?_)
                  simp [Dk.obs, Dk.robs, hdo]
                  refine hK23 _ ?_
                  try clear hK23 K23
                  refine vwp_cond (by first | rfl | (simp; rfl)) (fun h8 => ?_) fun h8 => ?_
                  · simp -failIfUnchanged at h8; all_goals
                   refine vwp_seq_k fun K30 hK30 => ?_
                   simp at *
                  · simp -failIfUnchanged at h8; all_goals
                   refine vwp_sq [1, 5, 7, 9, 10, 11, 12, 13, 14] fun K31 hK31 => vwp_region hT ?_
                   simp [Dk.obs, Dk.robs, hdo]
                   refine hK31 _ ?_
                   try clear hK31 K31
                   refine vwp_cond (by first | rfl | (simp; rfl)) (fun h9 => ?_) fun h9 => ?_
                   · simp -failIfUnchanged at h9; all_goals
                    refine vwp_seq_k fun K32 hK32 => ?_
                    simp at *
                   · simp -failIfUnchanged at h9; all_goals
                    refine vwp_sq [1, 5, 7, 9, 11, 13, 14] fun K33 hK33 => vwp_region hT ?_
                    simp [Dk.obs, Dk.robs, hdo]
                    refine hK33 _ ?_
                    try clear hK33 K33
                    refine vwp_cond (by first | rfl | (simp; rfl)) (fun h10 => ?_) fun h10 => ?_
                    · simp -failIfUnchanged at h10; all_goals
                     refine vwp_seq_k fun K34 hK34 => ?_
                     simp at *
                    · simp -failIfUnchanged at h10; all_goals
                     refine vwp_sq [1, 5, 7, 9, 11, 13, 14] fun K35 hK35 => vwp_region hT ?_
                     simp [Dk.obs, Dk.robs, hdo]
                     refine hK35 _ ?_
                     try clear hK35 K35
                     refine vwp_cond (by first | rfl | (simp; rfl)) (fun h11 => ?_) fun h11 => ?_
                     · simp -failIfUnchanged at h11; all_goals
                      refine vwp_seq_k fun K36 hK36 => ?_
                      simp at *
                     · simp -failIfUnchanged at h11; all_goals
                      refine vwp_cut_s (fun z : Dk => ⟨[(1, .fs l.length (opsV l)), (5, .ptr 0 5 0), (7, .ptr 2 5 0), (13, .int .i64 (i : Int))], sobs4 z n⟩) (fun z => z.ok n ∧ byteL z.B) (fun K37 hK37 => ?_) ?_
                      · refine vwp_sq [1, 5, 7, 13, 14] fun K38 hK38 => vwp_region hT ?_
                        simp [Dk.obs, Dk.robs, hdo]
                        refine hK38 _ ?_
                        try clear hK38 K38
                        refine vwp_cond (by first | rfl | (simp; rfl)) (fun h12 => ?_) fun h12 => ?_
                        · simp -failIfUnchanged at h12; all_goals
                         refine vwp_sq [1, 5, 7, 13] fun K39 hK39 => vwp_region hT ?_
                         simp [Dk.obs, Dk.robs, hdo]
                         refine vcall_k [0, 1] (crash_spec d n) ?_ (hh := by simp [Dk.obs])
                         rintro r ob' ⟨rfl, rfl⟩
                         simp [Dk.obs, Dk.robs, hdo]
                         refine hK39 _ ?_
                         try clear hK39 K39
                         refine vwp_live [1, 5, 7, 13] (vwp_region hT ?_)
                         simp [Dk.obs, Dk.robs, hdo]
                         refine vcall_k [2, 3] (rcrash_spec d) ?_ (hh := by simp [Dk.robs])
                         rintro r ob' ⟨rfl, rfl⟩
                         simp [Dk.obs, Dk.robs, hdo]
                         exact hK37 d.crashed _ (Gh.to_k [1, 5, 7, 13] [0, 1, 2, 3] (hh := by simp [Dk.obs, Dk.robs])) ⟨Dk.crashed_ok hd, hbt⟩
                        · simp -failIfUnchanged at h12; all_goals
                         refine vwp_skip ?_
                         exact hK37 d _ (Gh.to_k [1, 5, 7, 13] [0, 1, 2, 3] (hh := by simp [Dk.obs, Dk.robs])) ⟨hd, hbt⟩
                      · clear hd hbt hf
                        rintro d ⟨hd, hbt⟩
                        refine vwp_seq_k fun K40 hK40 => ?_
                        obtain ⟨q, hq⟩ : ∃ q, q = openL d n := ⟨_, rfl⟩
                        obtain ⟨jo, eo, d2⟩ := q
                        obtain ⟨hd2, hb2, hfo⟩ := open_fine hd hbt hq
                        rcases jo with _ | g2
                        · have hon := open_none hd hbt hq.symm
                          have hro := open_rnone hd hbt hq.symm
                          refine vwp_live [1, 5, 7, 13] (vwp_region hT ?_)
                          simp [Dk.obs, Dk.robs, hdo]
                          refine vcall_k [0, 1] (hon) ?_ (hh := by simp [Dk.obs])
                          rintro r ob' ⟨rfl, rfl⟩
                          simp [Dk.obs, Dk.robs, hdo]
                          refine hK40 _ ?_
                          try clear hK40 K40
                          refine vwp_live [1, 5, 7, 9, 10, 13] (vwp_region hT ?_)
                          simp [Dk.obs, Dk.robs, hdo]
                          refine vcall_k [2, 3] (hro) ?_ (hh := by simp [Dk.robs])
                          rintro r ob' ⟨rfl, rfl⟩
                          simp [Dk.obs, Dk.robs, hdo]
                          exact hK22 (d2, none, eo) _ (Gh.to_k [1, 5, 7, 9, 10, 11, 12, 13] [0, 1, 2, 3] (hh := by simp [Dk.obs, Dk.robs])) (⟨hd2, hb2, fun g hg => by cases hg⟩)
                        · obtain ⟨rfl, hfg⟩ := hfo g2 rfl
                          have hon := open_some hd hbt hq.symm
                          have hro := open_rsome hd hbt hq.symm
                          refine vwp_live [1, 5, 7, 13] (vwp_region hT ?_)
                          simp [Dk.obs, Dk.robs, hdo]
                          refine vcall_k [0, 1] (hon) ?_ (hh := by simp [Dk.obs])
                          rintro r ob' ⟨rfl, rfl⟩
                          simp [Dk.obs, Dk.robs, hdo]
                          refine hK40 _ ?_
                          try clear hK40 K40
                          refine vwp_live [1, 5, 7, 9, 10, 13] (vwp_region hT ?_)
                          simp [Dk.obs, Dk.robs, hdo]
                          refine vcall_k [2, 3] (hro) ?_ (hh := by simp [Dk.robs])
                          rintro r ob' ⟨rfl, rfl⟩
                          simp [Dk.obs, Dk.robs, hdo]
                          exact hK22 (d2, some g2, 0) _ (Gh.to_k [1, 5, 7, 9, 10, 11, 12, 13] [0, 1, 4, 5, 2, 3, 6, 7] (hh := by simp [Dk.obs, Dk.robs])) (⟨hd2, hb2, fun g hg => by cases hg; exact hfg.up (by have := hd2.n4; omega)⟩)
                · refine vwp_live [1, 5, 7, 9, 10, 11, 12, 13, 14] (vwp_region hT ?_)
                  simp [Dk.obs, Dk.robs, hdo]
                  refine hK23 _ ?_
                  try clear hK23 K23
                  refine vwp_cond (by first | rfl | (simp; rfl)) (fun h13 => ?_) fun h13 => ?_
                  · simp -failIfUnchanged at h13; all_goals
                   refine vwp_seq_k fun K41 hK41 => ?_
                   simp at *
                  · simp -failIfUnchanged at h13; all_goals
                   refine vwp_sq [1, 5, 7, 9, 10, 11, 12, 13, 14] fun K42 hK42 => vwp_region hT ?_
                   simp [Dk.obs, Dk.robs, hdo]
                   refine hK42 _ ?_
                   try clear hK42 K42
                   refine vwp_cond (by first | rfl | (simp; rfl)) (fun h14 => ?_) fun h14 => ?_
                   · simp -failIfUnchanged at h14; all_goals
                    refine vwp_seq_k fun K43 hK43 => ?_
                    simp at *
                   · simp -failIfUnchanged at h14; all_goals
                    refine vwp_sq [1, 5, 7, 9, 11, 13, 14] fun K44 hK44 => vwp_region hT ?_
                    simp [Dk.obs, Dk.robs, hdo]
                    refine hK44 _ ?_
                    try clear hK44 K44
                    refine vwp_cond (by first | rfl | (simp; rfl)) (fun h15 => ?_) fun h15 => ?_
                    · simp -failIfUnchanged at h15; all_goals
                     refine vwp_seq_k fun K45 hK45 => ?_
                     simp at *
                    · simp -failIfUnchanged at h15; all_goals
                     refine vwp_sq [1, 5, 7, 9, 11, 13, 14] fun K46 hK46 => vwp_region hT ?_
                     simp [Dk.obs, Dk.robs, hdo]
                     refine hK46 _ ?_
                     try clear hK46 K46
                     refine vwp_cond (by first | rfl | (simp; rfl)) (fun h16 => ?_) fun h16 => ?_
                     · simp -failIfUnchanged at h16; all_goals
                      refine vwp_seq_k fun K47 hK47 => ?_
                      simp at *
                     · simp -failIfUnchanged at h16; all_goals
                      refine vwp_cut_s (fun z : Dk => ⟨[(1, .fs l.length (opsV l)), (5, .ptr 0 5 0), (7, .ptr 2 5 0), (13, .int .i64 (i : Int))], sobs4 z n⟩) (fun z => z.ok n ∧ byteL z.B) (fun K48 hK48 => ?_) ?_
                      · refine vwp_sq [1, 5, 7, 13, 14] fun K49 hK49 => vwp_region hT ?_
                        simp [Dk.obs, Dk.robs, hdo]
                        refine hK49 _ ?_
                        try clear hK49 K49
                        refine vwp_cond (by first | rfl | (simp; rfl)) (fun h17 => ?_) fun h17 => ?_
                        · simp -failIfUnchanged at h17; all_goals
                         refine vwp_sq [1, 5, 7, 13] fun K50 hK50 => vwp_region hT ?_
                         simp [Dk.obs, Dk.robs, hdo]
                         refine vcall_k [0, 1] (crash_spec d n) ?_ (hh := by simp [Dk.obs])
                         rintro r ob' ⟨rfl, rfl⟩
                         simp [Dk.obs, Dk.robs, hdo]
                         refine hK50 _ ?_
                         try clear hK50 K50
                         refine vwp_live [1, 5, 7, 13] (vwp_region hT ?_)
                         simp [Dk.obs, Dk.robs, hdo]
                         refine vcall_k [2, 3] (rcrash_spec d) ?_ (hh := by simp [Dk.robs])
                         rintro r ob' ⟨rfl, rfl⟩
                         simp [Dk.obs, Dk.robs, hdo]
                         exact hK48 d.crashed _ (Gh.to_k [1, 5, 7, 13] [0, 1, 2, 3] (hh := by simp [Dk.obs, Dk.robs])) ⟨Dk.crashed_ok hd, hbt⟩
                        · simp -failIfUnchanged at h17; all_goals
                         refine vwp_skip ?_
                         exact hK48 d _ (Gh.to_k [1, 5, 7, 13] [0, 1, 2, 3] (hh := by simp [Dk.obs, Dk.robs])) ⟨hd, hbt⟩
                      · clear hd hbt hf
                        rintro d ⟨hd, hbt⟩
                        refine vwp_seq_k fun K51 hK51 => ?_
                        obtain ⟨q, hq⟩ : ∃ q, q = openL d n := ⟨_, rfl⟩
                        obtain ⟨jo, eo, d2⟩ := q
                        obtain ⟨hd2, hb2, hfo⟩ := open_fine hd hbt hq
                        rcases jo with _ | g2
                        · have hon := open_none hd hbt hq.symm
                          have hro := open_rnone hd hbt hq.symm
                          refine vwp_live [1, 5, 7, 13] (vwp_region hT ?_)
                          simp [Dk.obs, Dk.robs, hdo]
                          refine vcall_k [0, 1] (hon) ?_ (hh := by simp [Dk.obs])
                          rintro r ob' ⟨rfl, rfl⟩
                          simp [Dk.obs, Dk.robs, hdo]
                          refine hK51 _ ?_
                          try clear hK51 K51
                          refine vwp_live [1, 5, 7, 9, 10, 13] (vwp_region hT ?_)
                          simp [Dk.obs, Dk.robs, hdo]
                          refine vcall_k [2, 3] (hro) ?_ (hh := by simp [Dk.robs])
                          rintro r ob' ⟨rfl, rfl⟩
                          simp [Dk.obs, Dk.robs, hdo]
                          exact hK22 (d2, none, eo) _ (Gh.to_k [1, 5, 7, 9, 10, 11, 12, 13] [0, 1, 2, 3] (hh := by simp [Dk.obs, Dk.robs])) (⟨hd2, hb2, fun g hg => by cases hg⟩)
                        · obtain ⟨rfl, hfg⟩ := hfo g2 rfl
                          have hon := open_some hd hbt hq.symm
                          have hro := open_rsome hd hbt hq.symm
                          refine vwp_live [1, 5, 7, 13] (vwp_region hT ?_)
                          simp [Dk.obs, Dk.robs, hdo]
                          refine vcall_k [0, 1] (hon) ?_ (hh := by simp [Dk.obs])
                          rintro r ob' ⟨rfl, rfl⟩
                          simp [Dk.obs, Dk.robs, hdo]
                          refine hK51 _ ?_
                          try clear hK51 K51
                          refine vwp_live [1, 5, 7, 9, 10, 13] (vwp_region hT ?_)
                          simp [Dk.obs, Dk.robs, hdo]
                          refine vcall_k [2, 3] (hro) ?_ (hh := by simp [Dk.robs])
                          rintro r ob' ⟨rfl, rfl⟩
                          simp [Dk.obs, Dk.robs, hdo]
                          exact hK22 (d2, some g2, 0) _ (Gh.to_k [1, 5, 7, 9, 10, 11, 12, 13] [0, 1, 4, 5, 2, 3, 6, 7] (hh := by simp [Dk.obs, Dk.robs])) (⟨hd2, hb2, fun g hg => by cases hg; exact hfg.up (by have := hd2.n4; omega)⟩)
                · refine vwp_live [1, 5, 7, 9, 10, 11, 12, 13, 14] (vwp_region hT ?_)
                  simp [Dk.obs, Dk.robs, b0, b1, b2, b4]
                  refine hK23 _ ?_
                  try clear hK23 K23
                  refine vwp_cond (by first | rfl | (simp; rfl)) (fun h18 => ?_) fun h18 => ?_
                  · simp -failIfUnchanged at h18; all_goals
                   refine vwp_seq_k fun K52 hK52 => ?_
                   simp at *
                  · simp -failIfUnchanged at h18; all_goals
                   refine vwp_sq [1, 5, 7, 9, 10, 11, 12, 13, 14] fun K53 hK53 => vwp_region hT ?_
                   simp [Dk.obs, Dk.robs, b0, b1, b2, b4]
                   refine hK53 _ ?_
                   try clear hK53 K53
                   refine vwp_cond (by first | rfl | (simp; rfl)) (fun h19 => ?_) fun h19 => ?_
                   · simp -failIfUnchanged at h19; all_goals
                    refine vwp_seq_k fun K54 hK54 => ?_
                    simp at *
                   · simp -failIfUnchanged at h19; all_goals
                    refine vwp_sq [1, 5, 7, 9, 11, 13, 14] fun K55 hK55 => vwp_region hT ?_
                    simp [Dk.obs, Dk.robs, b0, b1, b2, b4]
                    refine hK55 _ ?_
                    try clear hK55 K55
                    refine vwp_cond (by first | rfl | (simp; rfl)) (fun h20 => ?_) fun h20 => ?_
                    · simp -failIfUnchanged at h20; all_goals
                     refine vwp_seq_k fun K56 hK56 => ?_
                     simp at *
                    · simp -failIfUnchanged at h20; all_goals
                     refine vwp_sq [1, 5, 7, 9, 11, 13, 14] fun K57 hK57 => vwp_region hT ?_
                     simp [Dk.obs, Dk.robs, b0, b1, b2, b4]
                     refine hK57 _ ?_
                     try clear hK57 K57
                     refine vwp_cond (by first | rfl | (simp; rfl)) (fun h21 => ?_) fun h21 => ?_
                     · simp -failIfUnchanged at h21; all_goals
                      refine vwp_seq_k fun K58 hK58 => ?_
                      simp at *
                     · simp -failIfUnchanged at h21; all_goals
                      refine vwp_cut_s (fun z : Dk => ⟨[(1, .fs l.length (opsV l)), (5, .ptr 0 5 0), (7, .ptr 2 5 0), (13, .int .i64 (i : Int))], sobs4 z n⟩) (fun z => z.ok n ∧ byteL z.B) (fun K59 hK59 => ?_) ?_
                      · refine vwp_sq [1, 5, 7, 13, 14] fun K60 hK60 => vwp_region hT ?_
                        simp [Dk.obs, Dk.robs, b0, b1, b2, b4]
                        refine hK60 _ ?_
                        try clear hK60 K60
                        refine vwp_cond (by first | rfl | (simp; rfl)) (fun h22 => ?_) fun h22 => ?_
                        · simp -failIfUnchanged at h22; all_goals
                         refine vwp_sq [1, 5, 7, 13] fun K61 hK61 => vwp_region hT ?_
                         simp [Dk.obs, Dk.robs, b0, b1, b2, b4]
                         refine vcall_k [0, 1] (crash_spec d n) ?_ (hh := by simp [Dk.obs])
                         rintro r ob' ⟨rfl, rfl⟩
                         simp [Dk.obs, Dk.robs, b0, b1, b2, b4]
                         refine hK61 _ ?_
                         try clear hK61 K61
                         refine vwp_live [1, 5, 7, 13] (vwp_region hT ?_)
                         simp [Dk.obs, Dk.robs, b0, b1, b2, b4]
                         refine vcall_k [2, 3] (rcrash_spec d) ?_ (hh := by simp [Dk.robs])
                         rintro r ob' ⟨rfl, rfl⟩
                         simp [Dk.obs, Dk.robs, b0, b1, b2, b4]
                         exact hK59 d.crashed _ (Gh.to_k [1, 5, 7, 13] [0, 1, 2, 3] (hh := by simp [Dk.obs, Dk.robs])) ⟨Dk.crashed_ok hd, hbt⟩
                        · simp -failIfUnchanged at h22; all_goals
                         refine vwp_skip ?_
                         exact hK59 d _ (Gh.to_k [1, 5, 7, 13] [0, 1, 2, 3] (hh := by simp [Dk.obs, Dk.robs])) ⟨hd, hbt⟩
                      · clear hd hbt hf
                        rintro d ⟨hd, hbt⟩
                        refine vwp_seq_k fun K62 hK62 => ?_
                        obtain ⟨q, hq⟩ : ∃ q, q = openL d n := ⟨_, rfl⟩
                        obtain ⟨jo, eo, d2⟩ := q
                        obtain ⟨hd2, hb2, hfo⟩ := open_fine hd hbt hq
                        rcases jo with _ | g2
                        · have hon := open_none hd hbt hq.symm
                          have hro := open_rnone hd hbt hq.symm
                          refine vwp_live [1, 5, 7, 13] (vwp_region hT ?_)
                          simp [Dk.obs, Dk.robs, b0, b1, b2, b4]
                          refine vcall_k [0, 1] (hon) ?_ (hh := by simp [Dk.obs])
                          rintro r ob' ⟨rfl, rfl⟩
                          simp [Dk.obs, Dk.robs, b0, b1, b2, b4]
                          refine hK62 _ ?_
                          try clear hK62 K62
                          refine vwp_live [1, 5, 7, 9, 10, 13] (vwp_region hT ?_)
                          simp [Dk.obs, Dk.robs, b0, b1, b2, b4]
                          refine vcall_k [2, 3] (hro) ?_ (hh := by simp [Dk.robs])
                          rintro r ob' ⟨rfl, rfl⟩
                          simp [Dk.obs, Dk.robs, b0, b1, b2, b4]
                          exact hK22 (d2, none, eo) _ (Gh.to_k [1, 5, 7, 9, 10, 11, 12, 13] [0, 1, 2, 3] (hh := by simp [Dk.obs, Dk.robs])) (⟨hd2, hb2, fun g hg => by cases hg⟩)
                        · obtain ⟨rfl, hfg⟩ := hfo g2 rfl
                          have hon := open_some hd hbt hq.symm
                          have hro := open_rsome hd hbt hq.symm
                          refine vwp_live [1, 5, 7, 13] (vwp_region hT ?_)
                          simp [Dk.obs, Dk.robs, b0, b1, b2, b4]
                          refine vcall_k [0, 1] (hon) ?_ (hh := by simp [Dk.obs])
                          rintro r ob' ⟨rfl, rfl⟩
                          simp [Dk.obs, Dk.robs, b0, b1, b2, b4]
                          refine hK62 _ ?_
                          try clear hK62 K62
                          refine vwp_live [1, 5, 7, 9, 10, 13] (vwp_region hT ?_)
                          simp [Dk.obs, Dk.robs, b0, b1, b2, b4]
                          refine vcall_k [2, 3] (hro) ?_ (hh := by simp [Dk.robs])
                          rintro r ob' ⟨rfl, rfl⟩
                          simp [Dk.obs, Dk.robs, b0, b1, b2, b4]
                          exact hK22 (d2, some g2, 0) _ (Gh.to_k [1, 5, 7, 9, 10, 11, 12, 13] [0, 1, 4, 5, 2, 3, 6, 7] (hh := by simp [Dk.obs, Dk.robs])) (⟨hd2, hb2, fun g hg => by cases hg; exact hfg.up (by have := hd2.n4; omega)⟩)
              · clear hd hbt hf
                rintro ⟨d, j, e⟩ ⟨hd, hbt, hf⟩
                dsimp only at hd hbt hf ⊢
                refine vwp_seq_k fun K63 hK63 => ?_
                rcases j with _ | g
                · dsimp only [doesS]
                  refine vwp_live [1, 5, 7, 9, 10, 11, 12, 13] (vwp_region hT ?_)
                  simp [Dk.obs, Dk.robs]
                  refine vcall_k [0, 1, 2, 3] (lsame_none (n := n) d hd) ?_ (hh := by simp)
                  rintro r ob' ⟨rfl, rfl⟩
                  simp [Dk.obs, Dk.robs]
                  refine hK63 _ ?_
                  try clear hK63 K63
                  refine vwp_cond (by first | rfl | (simp; rfl)) (fun h23 => ?_) fun h23 => ?_
                  · simp -failIfUnchanged at h23; all_goals
                   refine vwp_seq_k fun K64 hK64 => ?_
                   simp at *
                  · simp -failIfUnchanged at h23; all_goals
                   refine vwp_skip ?_
                   refine hK20 _ ?_
                   try clear hK20 K20
                   have w1 : IntKind.i64.wrap ((i : Int) + 1) = i + 1 := w64 (by omega) (by omega)
                   refine vwp_live [1, 5, 7, 9, 10, 11, 12, 13] (vwp_region hT ?_)
                   simp [Dk.obs, Dk.robs, w1]
                   exact hK17 (i + 1, d, none, e) _ (Gh.to_k [1, 5, 7, 9, 10, 11, 12, 13] [0, 1, 2, 3]) (⟨by dsimp only; omega, hd, hbt, fun g hg => by cases hg⟩) (by dsimp only; omega)
                · replace hf := hf g rfl
                  dsimp only [doesS]
                  refine vwp_live [1, 5, 7, 9, 10, 11, 12, 13] (vwp_region hT ?_)
                  simp [Dk.obs, Dk.robs]
                  refine vcall_k [0, 1, 2, 3, 4, 5, 6, 7] (lsame_some g (4000 + (i + 1)) (by omega) hf d hd) ?_ (hh := by simp)
                  rintro r ob' ⟨rfl, rfl⟩
                  simp [Dk.obs, Dk.robs]
                  refine hK63 _ ?_
                  try clear hK63 K63
                  refine vwp_cond (by first | rfl | (simp; rfl)) (fun h24 => ?_) fun h24 => ?_
                  · simp -failIfUnchanged at h24; all_goals
                   refine vwp_seq_k fun K65 hK65 => ?_
                   simp at *
                  · simp -failIfUnchanged at h24; all_goals
                   refine vwp_skip ?_
                   refine hK20 _ ?_
                   try clear hK20 K20
                   have w1 : IntKind.i64.wrap ((i : Int) + 1) = i + 1 := w64 (by omega) (by omega)
                   refine vwp_live [1, 5, 7, 9, 10, 11, 12, 13] (vwp_region hT ?_)
                   simp [Dk.obs, Dk.robs, w1]
                   exact hK17 (i + 1, d, some g, e) _ (Gh.to_k [1, 5, 7, 9, 10, 11, 12, 13] [0, 1, 2, 3, 4, 5, 6, 7]) (⟨by dsimp only; omega, hd, hbt, fun g' hg => by cases hg; exact hf⟩) (by dsimp only; omega)
             · simp -failIfUnchanged at h4; all_goals
              refine vwp_exit ?_
              simp only [inBlk, thenQ, if_true]
              refine hK15 _ ?_
              try clear hK15 K15
              refine vwp_sq [10, 12] fun K66 hK66 => vwp_region hT ?_
              simp [Dk.obs, Dk.robs]
              refine hK66 _ ?_
              try clear hK66 K66
              refine vwp_ret (hR _ _ ?_)
              exact ret_k [4] [] [] (.bool true) rfl
           · replace hf := hf g rfl
             dsimp only [doesS]
             refine vwp_live [1, 5, 7, 9, 10, 11, 12, 13] (vwp_region hT ?_)
             simp [Dk.obs, Dk.robs]
             refine hK19 _ ?_
             try clear hK19 K19
             refine vwp_cond (by first | rfl | (simp; rfl)) (fun h25 => ?_) fun h25 => ?_
             · simp -failIfUnchanged at h25; all_goals
              have q := h25
              obtain ⟨x, hx⟩ := getI (l := l) (i := i) (by omega)
              have hxm := List.mem_of_getElem? hx
              obtain ⟨hx1, hx2, hx3⟩ := hb x hxm
              have hx4 := hsm.mem hxm
              have hi40 := hsm.1
              have hdr := opsV_drop hx
              refine vwp_skip ?_
              refine hK18 _ ?_
              try clear hK18 K18
              refine vwp_seq_k fun K67 hK67 => ?_
              refine vwp_block ?_
              refine vwp_sq [1, 5, 7, 9, 10, 11, 12, 13] fun K68 hK68 => vwp_region hT ?_
              simp [Dk.obs, Dk.robs, hdr, opsV_length]
              repeat refine ⟨by first | assumption | omega | (intros; omega), ?_⟩
              refine hK68 _ ?_
              try clear hK68 K68
              refine vwp_cut_s (fun z : Dk × Option Lg × Int => doesS l n i z.1 z.2.1 z.2.2) (fun z => z.1.ok n ∧ byteL z.1.B ∧ ∀ g, z.2.1 = some g → g.fine n (4000 + (i + 1))) (fun K69 hK69 => ?_) ?_
              · refine vwp_block ?_
                refine vwp_seq_k fun K70 hK70 => ?_
                have hdoc : x.do_ = 2 ∨ x.do_ = 4 ∨ x.do_ = 0 ∨ x.do_ = 1 ∨ ((x.do_ == 0) = false ∧ (x.do_ == 1) = false ∧ (x.do_ == 2) = false ∧ (x.do_ == 4) = false) := by
                  simp only [beq_eq_false_iff_ne]
                  omega
                rcases hdoc with hdo | hdo | hdo | hdo | ⟨b0, b1, b2, b4⟩
                · refine vwp_live [1, 5, 7, 9, 10, 11, 12, 13, 14] (vwp_region hT ?_)
                  simp [Dk.obs, Dk.robs, hdo]
                  refine hK70 _ ?_
                  try clear hK70 K70
                  refine vwp_cond (by first | rfl | (simp; rfl)) (fun h26 => ?_) fun h26 => ?_
                  · simp -failIfUnchanged at h26; all_goals
                   refine vwp_sq [1, 5, 7, 9, 10, 11, 12, 13, 14] fun K71 hK71 => vwp_region hT ?_
                   simp [Dk.obs, Dk.robs, hdo]
                   refine vcall_k [0, 1] (fuse_spec d n x.a x.c) ?_ (hh := by simp [Dk.obs])
                   rintro r ob' ⟨rfl, rfl⟩
                   simp [Dk.obs, Dk.robs, hdo]
                   refine hK71 _ ?_
                   try clear hK71 K71
                   refine vwp_live [1, 5, 7, 9, 10, 11, 12, 13, 14] (vwp_region hT ?_)
                   simp [Dk.obs, Dk.robs, hdo]
                   refine vcall_k [4, 5] (rfuse_spec d x.a x.c) ?_ (hh := by simp [Dk.robs])
                   rintro r ob' ⟨rfl, rfl⟩
                   simp [Dk.obs, Dk.robs, hdo]
                   exact hK69 (d.fused x.a x.c, some g, e) _ (Gh.to_k [1, 5, 7, 9, 10, 11, 12, 13] [0, 1, 2, 3, 4, 5, 6, 7] (hh := by simp [Dk.obs, Dk.robs])) (⟨Dk.fused_ok hd x.a x.c hx3, hbt, fun g' hg => by cases hg; exact hf.up (by omega)⟩)
                  · simp -failIfUnchanged at h26; all_goals
                   refine vwp_seq_k fun K72 hK72 => ?_
                   simp at *
                · refine vwp_live [1, 5, 7, 9, 10, 11, 12, 13, 14] (vwp_region hT ?_)
                  simp [Dk.obs, Dk.robs, hdo]
                  refine hK70 _ ?_
                  try clear hK70 K70
                  refine vwp_cond (by first | rfl | (simp; rfl)) (fun h27 => ?_) fun h27 => ?_
                  · simp -failIfUnchanged at h27; all_goals
                   refine vwp_seq_k fun K73 hK73 => ?_
                   simp at *
                  · simp -failIfUnchanged at h27; all_goals
                   refine vwp_sq [1, 5, 7, 9, 10, 11, 12, 13, 14] fun K74 hK74 => vwp_region hT ?_
                   simp [Dk.obs, Dk.robs, hdo]
                   refine hK74 _ ?_
                   try clear hK74 K74
                   refine vwp_cond (by first | rfl | (simp; rfl)) (fun h28 => ?_) fun h28 => ?_
                   · simp -failIfUnchanged at h28; all_goals
                    have hts := turn_spec d n hd x.a (IntKind.u8.wrap x.c)
                    have hrs := rturn_spec d x.a (IntKind.u8.wrap x.c)
                    have htk := turn_ok hd hbt x.a (IntKind.u8.wrap x.c)
                    obtain ⟨tr, htr⟩ : ∃ tr, tr = d.turned x.a (IntKind.u8.wrap x.c) := ⟨_, rfl⟩
                    rw [← htr] at hts hrs htk
                    obtain ⟨te, d2⟩ := tr
                    dsimp only at hts hrs htk
                    refine vwp_sq [1, 5, 7, 9, 10, 11, 12, 13, 14] fun K75 hK75 => vwp_region hT ?_
                    simp [Dk.obs, Dk.robs, hdo]
                    repeat refine ⟨by first | assumption | omega | (intros; omega), ?_⟩
                    refine vcall_k [0, 1] (hts) ?_ (hh := by simp [Dk.obs])
                    rintro r ob' ⟨rfl, rfl⟩
                    simp [Dk.obs, Dk.robs, hdo]
                    repeat refine ⟨by first | assumption | omega | (intros; omega), ?_⟩
                    refine hK75 _ ?_
                    try clear hK75 K75
                    refine vwp_live [1, 5, 7, 9, 10, 11, 12, 13, 14] (vwp_region hT ?_)
                    simp [Dk.obs, Dk.robs, hdo]
                    repeat refine ⟨by first | assumption | omega | (intros; omega), ?_⟩
                    refine vcall_k [4, 5] (hrs) ?_ (hh := by simp [Dk.robs])
                    rintro r ob' ⟨rfl, rfl⟩
                    simp [Dk.obs, Dk.robs, hdo]
                    repeat refine ⟨by first | assumption | omega | (intros; omega), ?_⟩
                    exact hK69 (d2, some g, e) _ (Gh.to_k [1, 5, 7, 9, 10, 11, 12, 13] [0, 1, 2, 3, 4, 5, 6, 7] (hh := by simp [Dk.obs, Dk.robs])) (⟨htk.1, htk.2, fun g' hg => by cases hg; exact hf.up (by omega)⟩)
                   · simp -failIfUnchanged at h28; all_goals
                    refine vwp_seq_k fun K76 hK76 => ?_
                    simp at *
                · refine vwp_live [1, 5, 7, 9, 10, 11, 12, 13, 14] (vwp_region hT ?_)
                  simp [Dk.obs, Dk.robs, hdo]
                  refine hK70 _ ?_
                  try clear hK70 K70
                  refine vwp_cond (by first | rfl | (simp; rfl)) (fun h29 => ?_) fun h29 => ?_
                  · simp -failIfUnchanged at h29; all_goals
                   refine vwp_seq_k fun K77 hK77 => ?_
                   simp at *
                  · simp -failIfUnchanged at h29; all_goals
                   refine vwp_sq [1, 5, 7, 9, 10, 11, 12, 13, 14] fun K78 hK78 => vwp_region hT ?_
                   simp [Dk.obs, Dk.robs, hdo]
                   refine hK78 _ ?_
                   try clear hK78 K78
                   refine vwp_cond (by first | rfl | (simp; rfl)) (fun h30 => ?_) fun h30 => ?_
                   · simp -failIfUnchanged at h30; all_goals
                    refine vwp_seq_k fun K79 hK79 => ?_
                    simp at *
                   · simp -failIfUnchanged at h30; all_goals
                    refine vwp_sq [1, 5, 7, 9, 11, 13, 14] fun K80 hK80 => vwp_region hT ?_
                    simp [Dk.obs, Dk.robs, hdo]
                    refine hK80 _ ?_
                    try clear hK80 K80
                    refine vwp_cond (by first | rfl | (simp; rfl)) (fun h31 => ?_) fun h31 => ?_
                    · simp -failIfUnchanged at h31; all_goals
                     refine vwp_seq_k fun K81 hK81 => ?_
                     have hsp := append_spec g d n hd hf.hh (by have := hf.gm; omega) (by have := hf.rk; omega) hf.fn x.b hx2 (by omega)
                     have hrf := append_ref g d n hd hf.hh (by have := hf.gm; omega) (by have := hf.rk; omega) hf.fn x.b hx2 (by omega)
                     obtain ⟨q, hq⟩ : ∃ q, q = appendL g d n x.b := ⟨_, rfl⟩
                     rw [← hq] at hsp hrf
                     obtain ⟨e2, g2, d2⟩ := q
                     obtain ⟨hfg, hd2, hb2⟩ := append_fine hf hd hbt hx2 hq
                     dsimp only at hsp hrf
                     by_cases he0 : e2 = 0
                     · have hrf2 := hrf.mono fun r ob' q => (⟨q.1, rQ_ok he0 q.2⟩ : r = .int .i64 e2 ∧ ∃ old, ob' = [rlogP 4 g2, dskR d2, .live (bts d2.B), .live old, .live (g2.rows.map sB)])
                       refine vwp_live [1, 5, 7, 9, 11, 13, 14] (vwp_region hT ?_)
                       simp [Dk.obs, Dk.robs, hdo]
                       refine vcall_k [2, 0, 1, 3] (hsp) ?_ (hh := by simp [Dk.obs]) (ha := by simp)
                       rintro r ob' ⟨rfl, rfl⟩
                       simp [Dk.obs, Dk.robs, hdo]
                       refine hK81 _ ?_
                       try clear hK81 K81
                       refine vwp_live [1, 5, 7, 9, 10, 11, 13, 14] (vwp_region hT ?_)
                       simp [Dk.obs, Dk.robs, hdo]
                       refine vcall_k [6, 4, 5, 7] (hrf2) ?_ (hh := by simp [Dk.robs]) (ha := by simp)
                       rintro r ob' ⟨rfl, old, rfl⟩
                       simp [Dk.obs, Dk.robs, hdo]
                       exact hK69 (d2, some g2, e2) _ (Gh.to_k [1, 5, 7, 9, 10, 11, 12, 13] [0, 1, 2, 3, 4, 5, 6, 9] (hh := by simp [Dk.obs, Dk.robs])) (⟨hd2, hb2, fun g' hg => by cases hg; exact hfg.up (by omega)⟩)
                     · have hrf2 := hrf.mono fun r ob' q => (⟨q.1, rQ_bad he0 q.2⟩ : r = .int .i64 e2 ∧ ob' = rlobs g2 d2)
                       refine vwp_live [1, 5, 7, 9, 11, 13, 14] (vwp_region hT ?_)
                       simp [Dk.obs, Dk.robs, hdo]
                       refine vcall_k [2, 0, 1, 3] (hsp) ?_ (hh := by simp [Dk.obs]) (ha := by simp)
                       rintro r ob' ⟨rfl, rfl⟩
                       simp [Dk.obs, Dk.robs, hdo]
                       refine hK81 _ ?_
                       try clear hK81 K81
                       refine vwp_live [1, 5, 7, 9, 10, 11, 13, 14] (vwp_region hT ?_)
                       simp [Dk.obs, Dk.robs, hdo]
                       refine vcall_k [6, 4, 5, 7] (hrf2) ?_ (hh := by simp [Dk.robs]) (ha := by simp)
                       rintro r ob' ⟨rfl, rfl⟩
                       simp [Dk.obs, Dk.robs, hdo]
                       exact hK69 (d2, some g2, e2) _ (Gh.to_k [1, 5, 7, 9, 10, 11, 12, 13] [0, 1, 2, 3, 4, 5, 6, 7] (hh := by simp [Dk.obs, Dk.robs])) (⟨hd2, hb2, fun g' hg => by cases hg; exact hfg.up (by omega)⟩)
                    · simp -failIfUnchanged at h31; all_goals
                     refine vwp_seq_k fun K82 hK82 => ?_
                     simp at *
                · refine vwp_live [1, 5, 7, 9, 10, 11, 12, 13, 14] (vwp_region hT ?_)
                  simp [Dk.obs, Dk.robs, hdo]
                  refine hK70 _ ?_
                  try clear hK70 K70
                  refine vwp_cond (by first | rfl | (simp; rfl)) (fun h32 => ?_) fun h32 => ?_
                  · simp -failIfUnchanged at h32; all_goals
                   refine vwp_seq_k fun K83 hK83 => ?_
                   simp at *
                  · simp -failIfUnchanged at h32; all_goals
                   refine vwp_sq [1, 5, 7, 9, 10, 11, 12, 13, 14] fun K84 hK84 => vwp_region hT ?_
                   simp [Dk.obs, Dk.robs, hdo]
                   refine hK84 _ ?_
                   try clear hK84 K84
                   refine vwp_cond (by first | rfl | (simp; rfl)) (fun h33 => ?_) fun h33 => ?_
                   · simp -failIfUnchanged at h33; all_goals
                    refine vwp_seq_k fun K85 hK85 => ?_
                    simp at *
                   · simp -failIfUnchanged at h33; all_goals
                    refine vwp_sq [1, 5, 7, 9, 11, 13, 14] fun K86 hK86 => vwp_region hT ?_
                    simp [Dk.obs, Dk.robs, hdo]
                    refine hK86 _ ?_
                    try clear hK86 K86
                    refine vwp_cond (by first | rfl | (simp; rfl)) (fun h34 => ?_) fun h34 => ?_
                    · simp -failIfUnchanged at h34; all_goals
                     refine vwp_seq_k fun K87 hK87 => ?_
                     simp at *
                    · simp -failIfUnchanged at h34; all_goals
                     refine vwp_sq [1, 5, 7, 9, 11, 13, 14] fun K88 hK88 => vwp_region hT ?_
                     simp [Dk.obs, Dk.robs, hdo]
                     refine hK88 _ ?_
                     try clear hK88 K88
                     refine vwp_cond (by first | rfl | (simp; rfl)) (fun h35 => ?_) fun h35 => ?_
                     · simp -failIfUnchanged at h35; all_goals
                      refine vwp_seq_k fun K89 hK89 => ?_
                      have hmb : ∀ b ∈ manyL x, byteL b := fun b hb => by rw [manyL_mem hb]; exact hx2
                      have hmk := manyL_ok hx4
                      have hml := manyL_le x
                      have hms := many_spec x
                      have hrf := only_ref g d n hd hbt hf.hh hf.gm (manyL x) (by omega) hmb (fun b hb => by have := hmk.2 b hb; omega)
                      obtain ⟨q, hq⟩ : ∃ q, q = onlyL g d n (manyL x) := ⟨_, rfl⟩
                      rw [← hq] at hrf
                      obtain ⟨e2, g2, d2⟩ := q
                      obtain ⟨hfg, hd2, hb2⟩ := only_fine hf (by omega) hd hbt hmb hq
                      dsimp only at hrf
                      by_cases he0 : e2 = 0
                      · have hsp := only_ok hd hf.hh hf.gm (by omega) hmb (fun b hb => by have := hmk.2 b hb; omega) (he0 ▸ hq.symm)
                        have hrf2 := hrf.mono fun r ob' q => (⟨q.1, rQ_ok he0 q.2⟩ : r = .int .i64 e2 ∧ ∃ old, ob' = [rlogP 4 g2, dskR d2, .live (bts d2.B), .live old, .live (g2.rows.map sB)])
                        refine vwp_live [1, 5, 7, 9, 11, 13, 14] (vwp_region hT ?_)
                        simp [Dk.obs, Dk.robs, hdo]
                        refine vcall_k [] (hms) ?_ (ha := by simp [hdo])
                        rintro r ob' ⟨rfl, rfl⟩
                        simp [Dk.obs, Dk.robs, hdo]
                        refine vcall_freeze 9 (by rfl) (by intro c hc; obtain ⟨z, _, rfl⟩ := List.mem_map.1 hc; rfl) ?_
                        refine vcall_k [2, 0, 1, 3] (hsp) ?_ (hh := by simp [Dk.obs]) (ha := by simp [List.take_of_length_le]) (hok := by simp)
                        rintro r ob' ⟨rfl, old, rfl⟩
                        simp [Dk.obs, Dk.robs, hdo]
                        refine hK89 _ ?_
                        try clear hK89 K89
                        refine vwp_gh (st' := ⟨[(1, .fs l.length (opsV l)), (5, .ptr 0 5 0), (7, .ptr 4 5 0), (9, .ptr 2 6 0), (10, .int .i64 e2), (11, .ptr 6 6 0), (13, .int .i64 (i : Int)), (14, .ptr 8 4 0)], [dO 1 d2 n, .live (bts d2.B), lO 0 3 g2, .live (g2.rows.map sB), rdO 5 d, .live (bts d.B), rlO 4 7 g, .live (g.rows.map sB), .live x.cells]⟩) (Gh.to_k [1, 5, 7, 9, 10, 11, 13, 14] [0, 1, 2, 10, 4, 5, 6, 7, 8] (he := by simp [he0]) (hh := by simp [Dk.obs, Dk.robs, hdo])) ?_
                        refine vwp_live [1, 5, 7, 9, 10, 11, 13, 14] (vwp_region hT ?_)
                        simp [Dk.obs, Dk.robs, hdo]
                        refine vcall_k [] (hms) ?_ (ha := by simp [hdo])
                        rintro r ob' ⟨rfl, rfl⟩
                        simp [Dk.obs, Dk.robs, hdo]
                        refine vcall_freeze 9 (by rfl) (by intro c hc; obtain ⟨z, _, rfl⟩ := List.mem_map.1 hc; rfl) ?_
                        refine vcall_k [6, 4, 5, 7] (hrf2) ?_ (hh := by simp [Dk.robs]) (ha := by simp [List.take_of_length_le]) (hok := by simp)
                        rintro r ob' ⟨rfl, old2, rfl⟩
                        simp [Dk.obs, Dk.robs, hdo]
                        exact hK69 (d2, some g2, e2) _ (Gh.to_k [1, 5, 7, 9, 10, 11, 12, 13] [0, 1, 2, 3, 4, 5, 6, 10] (hh := by simp [Dk.obs, Dk.robs])) (⟨hd2, hb2, fun g' hg => by cases hg; exact hfg.up (by omega)⟩)
                      · have hsp := only_bad hd hf.hh hf.gm (by omega) hmb (fun b hb => by have := hmk.2 b hb; omega) hq.symm he0
                        have hrf2 := hrf.mono fun r ob' q => (⟨q.1, rQ_bad he0 q.2⟩ : r = .int .i64 e2 ∧ ob' = rlobs g2 d2)
                        refine vwp_live [1, 5, 7, 9, 11, 13, 14] (vwp_region hT ?_)
                        simp [Dk.obs, Dk.robs, hdo]
                        refine vcall_k [] (hms) ?_ (ha := by simp [hdo])
                        rintro r ob' ⟨rfl, rfl⟩
                        simp [Dk.obs, Dk.robs, hdo]
                        refine vcall_freeze 9 (by rfl) (by intro c hc; obtain ⟨z, _, rfl⟩ := List.mem_map.1 hc; rfl) ?_
                        refine vcall_k [2, 0, 1, 3] (hsp) ?_ (hh := by simp [Dk.obs]) (ha := by simp [List.take_of_length_le]) (hok := by simp)
                        rintro r ob' ⟨rfl, rfl⟩
                        simp [Dk.obs, Dk.robs, hdo]
                        refine hK89 _ ?_
                        try clear hK89 K89
                        refine vwp_gh (st' := ⟨[(1, .fs l.length (opsV l)), (5, .ptr 0 5 0), (7, .ptr 4 5 0), (9, .ptr 2 6 0), (10, .int .i64 e2), (11, .ptr 6 6 0), (13, .int .i64 (i : Int)), (14, .ptr 8 4 0)], [dO 1 d2 n, .live (bts d2.B), lO 0 3 g2, .live (g2.rows.map sB), rdO 5 d, .live (bts d.B), rlO 4 7 g, .live (g.rows.map sB), .live x.cells]⟩) (Gh.to_k [1, 5, 7, 9, 10, 11, 13, 14] [0, 1, 2, 3, 4, 5, 6, 7, 8] (hh := by simp [Dk.obs, Dk.robs, hdo])) ?_
                        refine vwp_live [1, 5, 7, 9, 10, 11, 13, 14] (vwp_region hT ?_)
                        simp [Dk.obs, Dk.robs, hdo]
                        refine vcall_k [] (hms) ?_ (ha := by simp [hdo])
                        rintro r ob' ⟨rfl, rfl⟩
                        simp [Dk.obs, Dk.robs, hdo]
                        refine vcall_freeze 9 (by rfl) (by intro c hc; obtain ⟨z, _, rfl⟩ := List.mem_map.1 hc; rfl) ?_
                        refine vcall_k [6, 4, 5, 7] (hrf2) ?_ (hh := by simp [Dk.robs]) (ha := by simp [List.take_of_length_le]) (hok := by simp)
                        rintro r ob' ⟨rfl, rfl⟩
                        simp [Dk.obs, Dk.robs, hdo]
                        exact hK69 (d2, some g2, e2) _ (Gh.to_k [1, 5, 7, 9, 10, 11, 12, 13] [0, 1, 2, 3, 4, 5, 6, 7] (hh := by simp [Dk.obs, Dk.robs])) (⟨hd2, hb2, fun g' hg => by cases hg; exact hfg.up (by omega)⟩)
                     · simp -failIfUnchanged at h35; all_goals
                      refine vwp_seq_k fun K90 hK90 => ?_
                      refine vwp_seq_k fun K91 hK91 => ?_
                      simp at *
                · refine vwp_live [1, 5, 7, 9, 10, 11, 12, 13, 14] (vwp_region hT ?_)
                  simp [Dk.obs, Dk.robs, b0, b1, b2, b4]
                  refine hK70 _ ?_
                  try clear hK70 K70
                  refine vwp_cond (by first | rfl | (simp; rfl)) (fun h36 => ?_) fun h36 => ?_
                  · simp -failIfUnchanged at h36; all_goals
                   refine vwp_seq_k fun K92 hK92 => ?_
                   simp at *
                  · simp -failIfUnchanged at h36; all_goals
                   refine vwp_sq [1, 5, 7, 9, 10, 11, 12, 13, 14] fun K93 hK93 => vwp_region hT ?_
                   simp [Dk.obs, Dk.robs, b0, b1, b2, b4]
                   refine hK93 _ ?_
                   try clear hK93 K93
                   refine vwp_cond (by first | rfl | (simp; rfl)) (fun h37 => ?_) fun h37 => ?_
                   · simp -failIfUnchanged at h37; all_goals
                    refine vwp_seq_k fun K94 hK94 => ?_
                    simp at *
                   · simp -failIfUnchanged at h37; all_goals
                    refine vwp_sq [1, 5, 7, 9, 11, 13, 14] fun K95 hK95 => vwp_region hT ?_
                    simp [Dk.obs, Dk.robs, b0, b1, b2, b4]
                    refine hK95 _ ?_
                    try clear hK95 K95
                    refine vwp_cond (by first | rfl | (simp; rfl)) (fun h38 => ?_) fun h38 => ?_
                    · simp -failIfUnchanged at h38; all_goals
                     refine vwp_seq_k fun K96 hK96 => ?_
                     simp at *
                    · simp -failIfUnchanged at h38; all_goals
                     refine vwp_sq [1, 5, 7, 9, 11, 13, 14] fun K97 hK97 => vwp_region hT ?_
                     simp [Dk.obs, Dk.robs, b0, b1, b2, b4]
                     refine hK97 _ ?_
                     try clear hK97 K97
                     refine vwp_cond (by first | rfl | (simp; rfl)) (fun h39 => ?_) fun h39 => ?_
                     · simp -failIfUnchanged at h39; all_goals
                      refine vwp_seq_k fun K98 hK98 => ?_
                      simp at *
                     · simp -failIfUnchanged at h39; all_goals
                      refine vwp_cut_s (fun z : Dk => ⟨[(1, .fs l.length (opsV l)), (5, .ptr 0 5 0), (7, .ptr 2 5 0), (13, .int .i64 (i : Int))], sobs4 z n⟩) (fun z => z.ok n ∧ byteL z.B) (fun K99 hK99 => ?_) ?_
                      · refine vwp_sq [1, 5, 7, 13, 14] fun K100 hK100 => vwp_region hT ?_
                        simp [Dk.obs, Dk.robs, b0, b1, b2, b4]
                        refine hK100 _ ?_
                        try clear hK100 K100
                        refine vwp_cond (by first | rfl | (simp; rfl)) (fun h40 => ?_) fun h40 => ?_
                        · simp -failIfUnchanged at h40; all_goals
                         refine vwp_sq [1, 5, 7, 13] fun K101 hK101 => vwp_region hT ?_
                         simp [Dk.obs, Dk.robs, b0, b1, b2, b4]
                         refine vcall_k [0, 1] (crash_spec d n) ?_ (hh := by simp [Dk.obs])
                         rintro r ob' ⟨rfl, rfl⟩
                         simp [Dk.obs, Dk.robs, b0, b1, b2, b4]
                         refine hK101 _ ?_
                         try clear hK101 K101
                         refine vwp_live [1, 5, 7, 13] (vwp_region hT ?_)
                         simp [Dk.obs, Dk.robs, b0, b1, b2, b4]
                         refine vcall_k [4, 5] (rcrash_spec d) ?_ (hh := by simp [Dk.robs])
                         rintro r ob' ⟨rfl, rfl⟩
                         simp [Dk.obs, Dk.robs, b0, b1, b2, b4]
                         exact hK99 d.crashed _ (Gh.to_k [1, 5, 7, 13] [0, 1, 4, 5] (hh := by simp [Dk.obs, Dk.robs])) ⟨Dk.crashed_ok hd, hbt⟩
                        · simp -failIfUnchanged at h40; all_goals
                         refine vwp_skip ?_
                         exact hK99 d _ (Gh.to_k [1, 5, 7, 13] [0, 1, 4, 5] (hh := by simp [Dk.obs, Dk.robs])) ⟨hd, hbt⟩
                      · clear hd hbt hf
                        rintro d ⟨hd, hbt⟩
                        refine vwp_seq_k fun K102 hK102 => ?_
                        obtain ⟨q, hq⟩ : ∃ q, q = openL d n := ⟨_, rfl⟩
                        obtain ⟨jo, eo, d2⟩ := q
                        obtain ⟨hd2, hb2, hfo⟩ := open_fine hd hbt hq
                        rcases jo with _ | g2
                        · have hon := open_none hd hbt hq.symm
                          have hro := open_rnone hd hbt hq.symm
                          refine vwp_live [1, 5, 7, 13] (vwp_region hT ?_)
                          simp [Dk.obs, Dk.robs, b0, b1, b2, b4]
                          refine vcall_k [0, 1] (hon) ?_ (hh := by simp [Dk.obs])
                          rintro r ob' ⟨rfl, rfl⟩
                          simp [Dk.obs, Dk.robs, b0, b1, b2, b4]
                          refine hK102 _ ?_
                          try clear hK102 K102
                          refine vwp_live [1, 5, 7, 9, 10, 13] (vwp_region hT ?_)
                          simp [Dk.obs, Dk.robs, b0, b1, b2, b4]
                          refine vcall_k [2, 3] (hro) ?_ (hh := by simp [Dk.robs])
                          rintro r ob' ⟨rfl, rfl⟩
                          simp [Dk.obs, Dk.robs, b0, b1, b2, b4]
                          exact hK69 (d2, none, eo) _ (Gh.to_k [1, 5, 7, 9, 10, 11, 12, 13] [0, 1, 2, 3] (hh := by simp [Dk.obs, Dk.robs])) (⟨hd2, hb2, fun g hg => by cases hg⟩)
                        · obtain ⟨rfl, hfg⟩ := hfo g2 rfl
                          have hon := open_some hd hbt hq.symm
                          have hro := open_rsome hd hbt hq.symm
                          refine vwp_live [1, 5, 7, 13] (vwp_region hT ?_)
                          simp [Dk.obs, Dk.robs, b0, b1, b2, b4]
                          refine vcall_k [0, 1] (hon) ?_ (hh := by simp [Dk.obs])
                          rintro r ob' ⟨rfl, rfl⟩
                          simp [Dk.obs, Dk.robs, b0, b1, b2, b4]
                          refine hK102 _ ?_
                          try clear hK102 K102
                          refine vwp_live [1, 5, 7, 9, 10, 13] (vwp_region hT ?_)
                          simp [Dk.obs, Dk.robs, b0, b1, b2, b4]
                          refine vcall_k [2, 3] (hro) ?_ (hh := by simp [Dk.robs])
                          rintro r ob' ⟨rfl, rfl⟩
                          simp [Dk.obs, Dk.robs, b0, b1, b2, b4]
                          exact hK69 (d2, some g2, 0) _ (Gh.to_k [1, 5, 7, 9, 10, 11, 12, 13] [0, 1, 4, 5, 2, 3, 6, 7] (hh := by simp [Dk.obs, Dk.robs])) (⟨hd2, hb2, fun g hg => by cases hg; exact hfg.up (by have := hd2.n4; omega)⟩)
              · clear hd hbt hf
                rintro ⟨d, j, e⟩ ⟨hd, hbt, hf⟩
                dsimp only at hd hbt hf ⊢
                refine vwp_seq_k fun K103 hK103 => ?_
                rcases j with _ | g
                · dsimp only [doesS]
                  refine vwp_live [1, 5, 7, 9, 10, 11, 12, 13] (vwp_region hT ?_)
                  simp [Dk.obs, Dk.robs]
                  refine vcall_k [0, 1, 2, 3] (lsame_none (n := n) d hd) ?_ (hh := by simp)
                  rintro r ob' ⟨rfl, rfl⟩
                  simp [Dk.obs, Dk.robs]
                  refine hK103 _ ?_
                  try clear hK103 K103
                  refine vwp_cond (by first | rfl | (simp; rfl)) (fun h41 => ?_) fun h41 => ?_
                  · simp -failIfUnchanged at h41; all_goals
                   refine vwp_seq_k fun K104 hK104 => ?_
                   simp at *
                  · simp -failIfUnchanged at h41; all_goals
                   refine vwp_skip ?_
                   refine hK67 _ ?_
                   try clear hK67 K67
                   have w1 : IntKind.i64.wrap ((i : Int) + 1) = i + 1 := w64 (by omega) (by omega)
                   refine vwp_live [1, 5, 7, 9, 10, 11, 12, 13] (vwp_region hT ?_)
                   simp [Dk.obs, Dk.robs, w1]
                   exact hK17 (i + 1, d, none, e) _ (Gh.to_k [1, 5, 7, 9, 10, 11, 12, 13] [0, 1, 2, 3]) (⟨by dsimp only; omega, hd, hbt, fun g hg => by cases hg⟩) (by dsimp only; omega)
                · replace hf := hf g rfl
                  dsimp only [doesS]
                  refine vwp_live [1, 5, 7, 9, 10, 11, 12, 13] (vwp_region hT ?_)
                  simp [Dk.obs, Dk.robs]
                  refine vcall_k [0, 1, 2, 3, 4, 5, 6, 7] (lsame_some g (4000 + (i + 1)) (by omega) hf d hd) ?_ (hh := by simp)
                  rintro r ob' ⟨rfl, rfl⟩
                  simp [Dk.obs, Dk.robs]
                  refine hK103 _ ?_
                  try clear hK103 K103
                  refine vwp_cond (by first | rfl | (simp; rfl)) (fun h42 => ?_) fun h42 => ?_
                  · simp -failIfUnchanged at h42; all_goals
                   refine vwp_seq_k fun K105 hK105 => ?_
                   simp at *
                  · simp -failIfUnchanged at h42; all_goals
                   refine vwp_skip ?_
                   refine hK67 _ ?_
                   try clear hK67 K67
                   have w1 : IntKind.i64.wrap ((i : Int) + 1) = i + 1 := w64 (by omega) (by omega)
                   refine vwp_live [1, 5, 7, 9, 10, 11, 12, 13] (vwp_region hT ?_)
                   simp [Dk.obs, Dk.robs, w1]
                   exact hK17 (i + 1, d, some g, e) _ (Gh.to_k [1, 5, 7, 9, 10, 11, 12, 13] [0, 1, 2, 3, 4, 5, 6, 7]) (⟨by dsimp only; omega, hd, hbt, fun g' hg => by cases hg; exact hf⟩) (by dsimp only; omega)
             · simp -failIfUnchanged at h25; all_goals
              refine vwp_exit ?_
              simp only [inBlk, thenQ, if_true]
              refine hK15 _ ?_
              try clear hK15 K15
              refine vwp_sq [10, 12] fun K106 hK106 => vwp_region hT ?_
              simp [Dk.obs, Dk.robs]
              refine hK106 _ ?_
              try clear hK106 K106
              refine vwp_ret (hR _ _ ?_)
              exact ret_k [4] [] [] (.bool true) rfl
       · obtain ⟨rfl, hfg⟩ := hfo g2 rfl
         have hon := open_some hD0k hD0b hq.symm
         have hro := open_rsome hD0k hD0b hq.symm
         refine vwp_live [1, 5, 7] (vwp_region hT ?_)
         simp [Dk.obs, Dk.robs]
         refine vcall_k [0, 1] (hon) ?_ (hh := by simp [Dk.obs])
         rintro r ob' ⟨rfl, rfl⟩
         simp [Dk.obs, Dk.robs]
         refine hK13 _ ?_
         try clear hK13 K13
         refine vwp_sq [1, 5, 7, 9, 10] fun K107 hK107 => vwp_region hT ?_
         simp [Dk.obs, Dk.robs]
         refine vcall_k [2, 3] (hro) ?_ (hh := by simp [Dk.robs])
         rintro r ob' ⟨rfl, rfl⟩
         simp [Dk.obs, Dk.robs]
         refine hK107 _ ?_
         try clear hK107 K107
         refine vwp_seq_k fun K108 hK108 => ?_
         refine vwp_cut_s (fun z : Dk × Option Lg × Int => doesS l n 0 z.1 z.2.1 z.2.2) (fun z => z.1.ok n ∧ byteL z.1.B ∧ ∀ g, z.2.1 = some g → g.fine n (4000 + 0)) (fun K109 hK109 => ?_) ?_
         · refine vwp_live [1, 5, 7, 9, 10, 11, 12] (vwp_region hT ?_)
           simp [Dk.obs, Dk.robs]
           exact hK109 (d2, some g2, 0) _ (Gh.to_k [1, 5, 7, 9, 10, 11, 12, 13] [0, 1, 4, 5, 2, 3, 6, 7] (hh := by simp [Dk.obs, Dk.robs])) (⟨hd2, hb2, fun g hg => by cases hg; exact hfg.up (by have := hd2.n4; omega)⟩)
         · rintro ⟨d, j, e⟩ ⟨hd, hbt, hf⟩
           dsimp only at hd hbt hf ⊢
           refine vwp_block ?_
           refine vwp_loop_s (fun u : Nat × Dk × Option Lg × Int => doesS l n u.1 u.2.1 u.2.2.1 u.2.2.2) (fun u => u.1 ≤ l.length ∧ u.2.1.ok n ∧ byteL u.2.1.B ∧ ∀ g, u.2.2.1 = some g → g.fine n (4000 + u.1)) (fun u => l.length - u.1) (0, d, j, e) (Gh.refl _ _) (⟨Nat.zero_le _, hd, hbt, hf⟩) ?_
           clear hd hbt hf
           rintro ⟨i, d, j, e⟩ ⟨hi, hd, hbt, hf⟩
           dsimp only at hi hd hbt hf ⊢
           intro K110 hK110
           refine vwp_seq_k fun K111 hK111 => ?_
           refine vwp_seq_k fun K112 hK112 => ?_
           rcases j with _ | g
           · dsimp only [doesS]
             refine vwp_live [1, 5, 7, 9, 10, 11, 12, 13] (vwp_region hT ?_)
             simp [Dk.obs, Dk.robs]
             refine hK112 _ ?_
             try clear hK112 K112
             refine vwp_cond (by first | rfl | (simp; rfl)) (fun h43 => ?_) fun h43 => ?_
             · simp -failIfUnchanged at h43; all_goals
              have q := h43
              obtain ⟨x, hx⟩ := getI (l := l) (i := i) (by omega)
              have hxm := List.mem_of_getElem? hx
              obtain ⟨hx1, hx2, hx3⟩ := hb x hxm
              have hx4 := hsm.mem hxm
              have hi40 := hsm.1
              have hdr := opsV_drop hx
              refine vwp_skip ?_
              refine hK111 _ ?_
              try clear hK111 K111
              refine vwp_seq_k fun K113 hK113 => ?_
              refine vwp_block ?_
              refine vwp_sq [1, 5, 7, 9, 10, 11, 12, 13] fun K114 hK114 => vwp_region hT ?_
              simp [Dk.obs, Dk.robs, hdr, opsV_length]
              repeat refine ⟨by first | assumption | omega | (intros; omega), ?_⟩
              refine hK114 _ ?_
              try clear hK114 K114
              refine vwp_cut_s (fun z : Dk × Option Lg × Int => doesS l n i z.1 z.2.1 z.2.2) (fun z => z.1.ok n ∧ byteL z.1.B ∧ ∀ g, z.2.1 = some g → g.fine n (4000 + (i + 1))) (fun K115 hK115 => ?_) ?_
              · refine vwp_block ?_
                refine vwp_seq_k fun K116 hK116 => ?_
                have hdoc : x.do_ = 2 ∨ x.do_ = 4 ∨ x.do_ = 0 ∨ x.do_ = 1 ∨ ((x.do_ == 0) = false ∧ (x.do_ == 1) = false ∧ (x.do_ == 2) = false ∧ (x.do_ == 4) = false) := by
                  simp only [beq_eq_false_iff_ne]
                  omega
                rcases hdoc with hdo | hdo | hdo | hdo | ⟨b0, b1, b2, b4⟩
                · refine vwp_live [1, 5, 7, 9, 10, 11, 12, 13, 14] (vwp_region hT ?_)
                  simp [Dk.obs, Dk.robs, hdo]
                  refine hK116 _ ?_
                  try clear hK116 K116
                  refine vwp_cond (by first | rfl | (simp; rfl)) (fun h44 => ?_) fun h44 => ?_
                  · simp -failIfUnchanged at h44; all_goals
                   refine vwp_sq [1, 5, 7, 9, 10, 11, 12, 13, 14] fun K117 hK117 => vwp_region hT ?_
                   simp [Dk.obs, Dk.robs, hdo]
                   refine vcall_k [0, 1] (fuse_spec d n x.a x.c) ?_ (hh := by simp [Dk.obs])
                   rintro r ob' ⟨rfl, rfl⟩
                   simp [Dk.obs, Dk.robs, hdo]
                   refine hK117 _ ?_
                   try clear hK117 K117
                   refine vwp_live [1, 5, 7, 9, 10, 11, 12, 13, 14] (vwp_region hT ?_)
                   simp [Dk.obs, Dk.robs, hdo]
                   refine vcall_k [2, 3] (rfuse_spec d x.a x.c) ?_ (hh := by simp [Dk.robs])
                   rintro r ob' ⟨rfl, rfl⟩
                   simp [Dk.obs, Dk.robs, hdo]
                   exact hK115 (d.fused x.a x.c, none, e) _ (Gh.to_k [1, 5, 7, 9, 10, 11, 12, 13] [0, 1, 2, 3] (hh := by simp [Dk.obs, Dk.robs])) (⟨Dk.fused_ok hd x.a x.c hx3, hbt, fun g hg => by cases hg⟩)
                  · simp -failIfUnchanged at h44; all_goals
                   refine vwp_seq_k fun K118 hK118 => ?_
                   simp at *
                · refine vwp_live [1, 5, 7, 9, 10, 11, 12, 13, 14] (vwp_region hT ?_)
                  simp [Dk.obs, Dk.robs, hdo]
                  refine hK116 _ ?_
                  try clear hK116 K116
                  refine vwp_cond (by first | rfl | (simp; rfl)) (fun h45 => ?_) fun h45 => ?_
                  · simp -failIfUnchanged at h45; all_goals
                   refine vwp_seq_k fun K119 hK119 => ?_
                   simp at *
                  · simp -failIfUnchanged at h45; all_goals
                   refine vwp_sq [1, 5, 7, 9, 10, 11, 12, 13, 14] fun K120 hK120 => vwp_region hT ?_
                   simp [Dk.obs, Dk.robs, hdo]
                   refine hK120 _ ?_
                   try clear hK120 K120
                   refine vwp_cond (by first | rfl | (simp; rfl)) (fun h46 => ?_) fun h46 => ?_
                   · simp -failIfUnchanged at h46; all_goals
                    have hts := turn_spec d n hd x.a (IntKind.u8.wrap x.c)
                    have hrs := rturn_spec d x.a (IntKind.u8.wrap x.c)
                    have htk := turn_ok hd hbt x.a (IntKind.u8.wrap x.c)
                    obtain ⟨tr, htr⟩ : ∃ tr, tr = d.turned x.a (IntKind.u8.wrap x.c) := ⟨_, rfl⟩
                    rw [← htr] at hts hrs htk
                    obtain ⟨te, d2⟩ := tr
                    dsimp only at hts hrs htk
                    refine vwp_sq [1, 5, 7, 9, 10, 11, 12, 13, 14] fun K121 hK121 => vwp_region hT ?_
                    simp [Dk.obs, Dk.robs, hdo]
                    repeat refine ⟨by first | assumption | omega | (intros; omega), ?_⟩
                    refine vcall_k [0, 1] (hts) ?_ (hh := by simp [Dk.obs])
                    rintro r ob' ⟨rfl, rfl⟩
                    simp [Dk.obs, Dk.robs, hdo]
                    repeat refine ⟨by first | assumption | omega | (intros; omega), ?_⟩
                    refine hK121 _ ?_
                    try clear hK121 K121
                    refine vwp_live [1, 5, 7, 9, 10, 11, 12, 13, 14] (vwp_region hT ?_)
                    simp [Dk.obs, Dk.robs, hdo]
                    repeat refine ⟨by first | assumption | omega | (intros; omega), ?_⟩
                    refine vcall_k [2, 3] (hrs) ?_ (hh := by simp [Dk.robs])
                    rintro r ob' ⟨rfl, rfl⟩
                    simp [Dk.obs, Dk.robs, hdo]
                    repeat refine ⟨by first | assumption | omega | (intros; omega), ?_⟩
                    exact hK115 (d2, none, e) _ (Gh.to_k [1, 5, 7, 9, 10, 11, 12, 13] [0, 1, 2, 3] (hh := by simp [Dk.obs, Dk.robs])) (⟨htk.1, htk.2, fun g hg => by cases hg⟩)
                   · simp -failIfUnchanged at h46; all_goals
                    refine vwp_seq_k fun K122 hK122 => ?_
                    simp at *
                · refine vwp_live [1, 5, 7, 9, 10, 11, 12, 13, 14] (vwp_region hT ?_)
                  simp [Dk.obs, Dk.robs, hdo]
                  refine hK116 _ ?_
                  try clear hK116 K116
                  refine vwp_cond (by first | rfl | (simp; rfl)) (fun h47 => ?_) fun h47 => ?_
                  · simp -failIfUnchanged at h47; all_goals
                   refine vwp_seq_k fun K123 hK123 => ?_
                   simp at *
                  · simp -failIfUnchanged at h47; all_goals
                   refine vwp_sq [1, 5, 7, 9, 10, 11, 12, 13, 14] fun K124 hK124 => vwp_region hT ?_
                   simp [Dk.obs, Dk.robs, hdo]
                   refine hK124 _ ?_
                   try clear hK124 K124
                   refine vwp_cond (by first | rfl | (simp; rfl)) (fun h48 => ?_) fun h48 => ?_
                   · simp -failIfUnchanged at h48; all_goals
                    refine vwp_seq_k fun K125 hK125 => ?_
                    simp at *
                   · simp -failIfUnchanged at h48; all_goals
                    refine vwp_sq [1, 5, 7, 9, 11, 13, 14] fun K126 hK126 => vwp_region hT ?_
                    simp [Dk.obs, Dk.robs, hdo]
                    refine hK126 _ ?_
                    try clear hK126 K126
                    refine vwp_cond (by first | rfl | (simp; rfl)) (fun h49 => ?_) fun h49 => ?_
                    · simp -failIfUnchanged at h49; all_goals
                     refine vwp_seq_k fun K127 hK127 => ?_
                     simp at *
                    · simp -failIfUnchanged at h49; all_goals
                     refine vwp_sq [1, 5, 7, 9, 11, 13, 14] fun K128 hK128 => vwp_region hT ?_
                     simp [Dk.obs, Dk.robs, hdo]
                     refine hK128 _ ?_
                     try clear hK128 K128
                     refine vwp_cond (by first | rfl | (simp; rfl)) (fun h50 => ?_) fun h50 => ?_
                     · simp -failIfUnchanged at h50; all_goals
                      refine vwp_seq_k fun K129 hK129 => ?_
                      simp at *
                     · simp -failIfUnchanged at h50; all_goals
                      refine vwp_cut_s (fun z : Dk => ⟨[(1, .fs l.length (opsV l)), (5, .ptr 0 5 0), (7, .ptr 2 5 0), (13, .int .i64 (i : Int))], sobs4 z n⟩) (fun z => z.ok n ∧ byteL z.B) (fun K130 hK130 => ?_) ?_
                      · refine vwp_sq [1, 5, 7, 13, 14] fun K131 hK131 => vwp_region hT ?_
                        simp [Dk.obs, Dk.robs, hdo]
                        refine hK131 _ ?_
                        try clear hK131 K131
                        refine vwp_cond (by first | rfl | (simp; rfl)) (fun h51 => ?_) fun h51 => ?_
                        · simp -failIfUnchanged at h51; all_goals
                         refine vwp_sq [1, 5, 7, 13] fun K132 hK132 => vwp_region hT ?_
                         simp [Dk.obs, Dk.robs, hdo]
                         refine vcall_k [0, 1] (crash_spec d n) ?_ (hh := by simp [Dk.obs])
                         rintro r ob' ⟨rfl, rfl⟩
                         simp [Dk.obs, Dk.robs, hdo]
                         refine hK132 _ ?_
                         try clear hK132 K132
                         refine vwp_live [1, 5, 7, 13] (vwp_region hT ?_)
                         simp [Dk.obs, Dk.robs, hdo]
                         refine vcall_k [2, 3] (rcrash_spec d) ?_ (hh := by simp [Dk.robs])
                         rintro r ob' ⟨rfl, rfl⟩
                         simp [Dk.obs, Dk.robs, hdo]
                         exact hK130 d.crashed _ (Gh.to_k [1, 5, 7, 13] [0, 1, 2, 3] (hh := by simp [Dk.obs, Dk.robs])) ⟨Dk.crashed_ok hd, hbt⟩
                        · simp -failIfUnchanged at h51; all_goals
                         refine vwp_skip ?_
                         exact hK130 d _ (Gh.to_k [1, 5, 7, 13] [0, 1, 2, 3] (hh := by simp [Dk.obs, Dk.robs])) ⟨hd, hbt⟩
                      · clear hd hbt hf
                        rintro d ⟨hd, hbt⟩
                        refine vwp_seq_k fun K133 hK133 => ?_
                        obtain ⟨q, hq⟩ : ∃ q, q = openL d n := ⟨_, rfl⟩
                        obtain ⟨jo, eo, d2⟩ := q
                        obtain ⟨hd2, hb2, hfo⟩ := open_fine hd hbt hq
                        rcases jo with _ | g2
                        · have hon := open_none hd hbt hq.symm
                          have hro := open_rnone hd hbt hq.symm
                          refine vwp_live [1, 5, 7, 13] (vwp_region hT ?_)
                          simp [Dk.obs, Dk.robs, hdo]
                          refine vcall_k [0, 1] (hon) ?_ (hh := by simp [Dk.obs])
                          rintro r ob' ⟨rfl, rfl⟩
                          simp [Dk.obs, Dk.robs, hdo]
                          refine hK133 _ ?_
                          try clear hK133 K133
                          refine vwp_live [1, 5, 7, 9, 10, 13] (vwp_region hT ?_)
                          simp [Dk.obs, Dk.robs, hdo]
                          refine vcall_k [2, 3] (hro) ?_ (hh := by simp [Dk.robs])
                          rintro r ob' ⟨rfl, rfl⟩
                          simp [Dk.obs, Dk.robs, hdo]
                          exact hK115 (d2, none, eo) _ (Gh.to_k [1, 5, 7, 9, 10, 11, 12, 13] [0, 1, 2, 3] (hh := by simp [Dk.obs, Dk.robs])) (⟨hd2, hb2, fun g hg => by cases hg⟩)
                        · obtain ⟨rfl, hfg⟩ := hfo g2 rfl
                          have hon := open_some hd hbt hq.symm
                          have hro := open_rsome hd hbt hq.symm
                          refine vwp_live [1, 5, 7, 13] (vwp_region hT ?_)
                          simp [Dk.obs, Dk.robs, hdo]
                          refine vcall_k [0, 1] (hon) ?_ (hh := by simp [Dk.obs])
                          rintro r ob' ⟨rfl, rfl⟩
                          simp [Dk.obs, Dk.robs, hdo]
                          refine hK133 _ ?_
                          try clear hK133 K133
                          refine vwp_live [1, 5, 7, 9, 10, 13] (vwp_region hT ?_)
                          simp [Dk.obs, Dk.robs, hdo]
                          refine vcall_k [2, 3] (hro) ?_ (hh := by simp [Dk.robs])
                          rintro r ob' ⟨rfl, rfl⟩
                          simp [Dk.obs, Dk.robs, hdo]
                          exact hK115 (d2, some g2, 0) _ (Gh.to_k [1, 5, 7, 9, 10, 11, 12, 13] [0, 1, 4, 5, 2, 3, 6, 7] (hh := by simp [Dk.obs, Dk.robs])) (⟨hd2, hb2, fun g hg => by cases hg; exact hfg.up (by have := hd2.n4; omega)⟩)
                · refine vwp_live [1, 5, 7, 9, 10, 11, 12, 13, 14] (vwp_region hT ?_)
                  simp [Dk.obs, Dk.robs, hdo]
                  refine hK116 _ ?_
                  try clear hK116 K116
                  refine vwp_cond (by first | rfl | (simp; rfl)) (fun h52 => ?_) fun h52 => ?_
                  · simp -failIfUnchanged at h52; all_goals
                   refine vwp_seq_k fun K134 hK134 => ?_
                   simp at *
                  · simp -failIfUnchanged at h52; all_goals
                   refine vwp_sq [1, 5, 7, 9, 10, 11, 12, 13, 14] fun K135 hK135 => vwp_region hT ?_
                   simp [Dk.obs, Dk.robs, hdo]
                   refine hK135 _ ?_
                   try clear hK135 K135
                   refine vwp_cond (by first | rfl | (simp; rfl)) (fun h53 => ?_) fun h53 => ?_
                   · simp -failIfUnchanged at h53; all_goals
                    refine vwp_seq_k fun K136 hK136 => ?_
                    simp at *
                   · simp -failIfUnchanged at h53; all_goals
                    refine vwp_sq [1, 5, 7, 9, 11, 13, 14] fun K137 hK137 => vwp_region hT ?_
                    simp [Dk.obs, Dk.robs, hdo]
                    refine hK137 _ ?_
                    try clear hK137 K137
                    refine vwp_cond (by first | rfl | (simp; rfl)) (fun h54 => ?_) fun h54 => ?_
                    · simp -failIfUnchanged at h54; all_goals
                     refine vwp_seq_k fun K138 hK138 => ?_
                     simp at *
                    · simp -failIfUnchanged at h54; all_goals
                     refine vwp_sq [1, 5, 7, 9, 11, 13, 14] fun K139 hK139 => vwp_region hT ?_
                     simp [Dk.obs, Dk.robs, hdo]
                     refine hK139 _ ?_
                     try clear hK139 K139
                     refine vwp_cond (by first | rfl | (simp; rfl)) (fun h55 => ?_) fun h55 => ?_
                     · simp -failIfUnchanged at h55; all_goals
                      refine vwp_seq_k fun K140 hK140 => ?_
                      simp at *
                     · simp -failIfUnchanged at h55; all_goals
                      refine vwp_cut_s (fun z : Dk => ⟨[(1, .fs l.length (opsV l)), (5, .ptr 0 5 0), (7, .ptr 2 5 0), (13, .int .i64 (i : Int))], sobs4 z n⟩) (fun z => z.ok n ∧ byteL z.B) (fun K141 hK141 => ?_) ?_
                      · refine vwp_sq [1, 5, 7, 13, 14] fun K142 hK142 => vwp_region hT ?_
                        simp [Dk.obs, Dk.robs, hdo]
                        refine hK142 _ ?_
                        try clear hK142 K142
                        refine vwp_cond (by first | rfl | (simp; rfl)) (fun h56 => ?_) fun h56 => ?_
                        · simp -failIfUnchanged at h56; all_goals
                         refine vwp_sq [1, 5, 7, 13] fun K143 hK143 => vwp_region hT ?_
                         simp [Dk.obs, Dk.robs, hdo]
                         refine vcall_k [0, 1] (crash_spec d n) ?_ (hh := by simp [Dk.obs])
                         rintro r ob' ⟨rfl, rfl⟩
                         simp [Dk.obs, Dk.robs, hdo]
                         refine hK143 _ ?_
                         try clear hK143 K143
                         refine vwp_live [1, 5, 7, 13] (vwp_region hT ?_)
                         simp [Dk.obs, Dk.robs, hdo]
                         refine vcall_k [2, 3] (rcrash_spec d) ?_ (hh := by simp [Dk.robs])
                         rintro r ob' ⟨rfl, rfl⟩
                         simp [Dk.obs, Dk.robs, hdo]
                         exact hK141 d.crashed _ (Gh.to_k [1, 5, 7, 13] [0, 1, 2, 3] (hh := by simp [Dk.obs, Dk.robs])) ⟨Dk.crashed_ok hd, hbt⟩
                        · simp -failIfUnchanged at h56; all_goals
                         refine vwp_skip ?_
                         exact hK141 d _ (Gh.to_k [1, 5, 7, 13] [0, 1, 2, 3] (hh := by simp [Dk.obs, Dk.robs])) ⟨hd, hbt⟩
                      · clear hd hbt hf
                        rintro d ⟨hd, hbt⟩
                        refine vwp_seq_k fun K144 hK144 => ?_
                        obtain ⟨q, hq⟩ : ∃ q, q = openL d n := ⟨_, rfl⟩
                        obtain ⟨jo, eo, d2⟩ := q
                        obtain ⟨hd2, hb2, hfo⟩ := open_fine hd hbt hq
                        rcases jo with _ | g2
                        · have hon := open_none hd hbt hq.symm
                          have hro := open_rnone hd hbt hq.symm
                          refine vwp_live [1, 5, 7, 13] (vwp_region hT ?_)
                          simp [Dk.obs, Dk.robs, hdo]
                          refine vcall_k [0, 1] (hon) ?_ (hh := by simp [Dk.obs])
                          rintro r ob' ⟨rfl, rfl⟩
                          simp [Dk.obs, Dk.robs, hdo]
                          refine hK144 _ ?_
                          try clear hK144 K144
                          refine vwp_live [1, 5, 7, 9, 10, 13] (vwp_region hT ?_)
                          simp [Dk.obs, Dk.robs, hdo]
                          refine vcall_k [2, 3] (hro) ?_ (hh := by simp [Dk.robs])
                          rintro r ob' ⟨rfl, rfl⟩
                          simp [Dk.obs, Dk.robs, hdo]
                          exact hK115 (d2, none, eo) _ (Gh.to_k [1, 5, 7, 9, 10, 11, 12, 13] [0, 1, 2, 3] (hh := by simp [Dk.obs, Dk.robs])) (⟨hd2, hb2, fun g hg => by cases hg⟩)
                        · obtain ⟨rfl, hfg⟩ := hfo g2 rfl
                          have hon := open_some hd hbt hq.symm
                          have hro := open_rsome hd hbt hq.symm
                          refine vwp_live [1, 5, 7, 13] (vwp_region hT ?_)
                          simp [Dk.obs, Dk.robs, hdo]
                          refine vcall_k [0, 1] (hon) ?_ (hh := by simp [Dk.obs])
                          rintro r ob' ⟨rfl, rfl⟩
                          simp [Dk.obs, Dk.robs, hdo]
                          refine hK144 _ ?_
                          try clear hK144 K144
                          refine vwp_live [1, 5, 7, 9, 10, 13] (vwp_region hT ?_)
                          simp [Dk.obs, Dk.robs, hdo]
                          refine vcall_k [2, 3] (hro) ?_ (hh := by simp [Dk.robs])
                          rintro r ob' ⟨rfl, rfl⟩
                          simp [Dk.obs, Dk.robs, hdo]
                          exact hK115 (d2, some g2, 0) _ (Gh.to_k [1, 5, 7, 9, 10, 11, 12, 13] [0, 1, 4, 5, 2, 3, 6, 7] (hh := by simp [Dk.obs, Dk.robs])) (⟨hd2, hb2, fun g hg => by cases hg; exact hfg.up (by have := hd2.n4; omega)⟩)
                · refine vwp_live [1, 5, 7, 9, 10, 11, 12, 13, 14] (vwp_region hT ?_)
                  simp [Dk.obs, Dk.robs, b0, b1, b2, b4]
                  refine hK116 _ ?_
                  try clear hK116 K116
                  refine vwp_cond (by first | rfl | (simp; rfl)) (fun h57 => ?_) fun h57 => ?_
                  · simp -failIfUnchanged at h57; all_goals
                   refine vwp_seq_k fun K145 hK145 => ?_
                   simp at *
                  · simp -failIfUnchanged at h57; all_goals
                   refine vwp_sq [1, 5, 7, 9, 10, 11, 12, 13, 14] fun K146 hK146 => vwp_region hT ?_
                   simp [Dk.obs, Dk.robs, b0, b1, b2, b4]
                   refine hK146 _ ?_
                   try clear hK146 K146
                   refine vwp_cond (by first | rfl | (simp; rfl)) (fun h58 => ?_) fun h58 => ?_
                   · simp -failIfUnchanged at h58; all_goals
                    refine vwp_seq_k fun K147 hK147 => ?_
                    simp at *
                   · simp -failIfUnchanged at h58; all_goals
                    refine vwp_sq [1, 5, 7, 9, 11, 13, 14] fun K148 hK148 => vwp_region hT ?_
                    simp [Dk.obs, Dk.robs, b0, b1, b2, b4]
                    refine hK148 _ ?_
                    try clear hK148 K148
                    refine vwp_cond (by first | rfl | (simp; rfl)) (fun h59 => ?_) fun h59 => ?_
                    · simp -failIfUnchanged at h59; all_goals
                     refine vwp_seq_k fun K149 hK149 => ?_
                     simp at *
                    · simp -failIfUnchanged at h59; all_goals
                     refine vwp_sq [1, 5, 7, 9, 11, 13, 14] fun K150 hK150 => vwp_region hT ?_
                     simp [Dk.obs, Dk.robs, b0, b1, b2, b4]
                     refine hK150 _ ?_
                     try clear hK150 K150
                     refine vwp_cond (by first | rfl | (simp; rfl)) (fun h60 => ?_) fun h60 => ?_
                     · simp -failIfUnchanged at h60; all_goals
                      refine vwp_seq_k fun K151 hK151 => ?_
                      simp at *
                     · simp -failIfUnchanged at h60; all_goals
                      refine vwp_cut_s (fun z : Dk => ⟨[(1, .fs l.length (opsV l)), (5, .ptr 0 5 0), (7, .ptr 2 5 0), (13, .int .i64 (i : Int))], sobs4 z n⟩) (fun z => z.ok n ∧ byteL z.B) (fun K152 hK152 => ?_) ?_
                      · refine vwp_sq [1, 5, 7, 13, 14] fun K153 hK153 => vwp_region hT ?_
                        simp [Dk.obs, Dk.robs, b0, b1, b2, b4]
                        refine hK153 _ ?_
                        try clear hK153 K153
                        refine vwp_cond (by first | rfl | (simp; rfl)) (fun h61 => ?_) fun h61 => ?_
                        · simp -failIfUnchanged at h61; all_goals
                         refine vwp_sq [1, 5, 7, 13] fun K154 hK154 => vwp_region hT ?_
                         simp [Dk.obs, Dk.robs, b0, b1, b2, b4]
                         refine vcall_k [0, 1] (crash_spec d n) ?_ (hh := by simp [Dk.obs])
                         rintro r ob' ⟨rfl, rfl⟩
                         simp [Dk.obs, Dk.robs, b0, b1, b2, b4]
                         refine hK154 _ ?_
                         try clear hK154 K154
                         refine vwp_live [1, 5, 7, 13] (vwp_region hT ?_)
                         simp [Dk.obs, Dk.robs, b0, b1, b2, b4]
                         refine vcall_k [2, 3] (rcrash_spec d) ?_ (hh := by simp [Dk.robs])
                         rintro r ob' ⟨rfl, rfl⟩
                         simp [Dk.obs, Dk.robs, b0, b1, b2, b4]
                         exact hK152 d.crashed _ (Gh.to_k [1, 5, 7, 13] [0, 1, 2, 3] (hh := by simp [Dk.obs, Dk.robs])) ⟨Dk.crashed_ok hd, hbt⟩
                        · simp -failIfUnchanged at h61; all_goals
                         refine vwp_skip ?_
                         exact hK152 d _ (Gh.to_k [1, 5, 7, 13] [0, 1, 2, 3] (hh := by simp [Dk.obs, Dk.robs])) ⟨hd, hbt⟩
                      · clear hd hbt hf
                        rintro d ⟨hd, hbt⟩
                        refine vwp_seq_k fun K155 hK155 => ?_
                        obtain ⟨q, hq⟩ : ∃ q, q = openL d n := ⟨_, rfl⟩
                        obtain ⟨jo, eo, d2⟩ := q
                        obtain ⟨hd2, hb2, hfo⟩ := open_fine hd hbt hq
                        rcases jo with _ | g2
                        · have hon := open_none hd hbt hq.symm
                          have hro := open_rnone hd hbt hq.symm
                          refine vwp_live [1, 5, 7, 13] (vwp_region hT ?_)
                          simp [Dk.obs, Dk.robs, b0, b1, b2, b4]
                          refine vcall_k [0, 1] (hon) ?_ (hh := by simp [Dk.obs])
                          rintro r ob' ⟨rfl, rfl⟩
                          simp [Dk.obs, Dk.robs, b0, b1, b2, b4]
                          refine hK155 _ ?_
                          try clear hK155 K155
                          refine vwp_live [1, 5, 7, 9, 10, 13] (vwp_region hT ?_)
                          simp [Dk.obs, Dk.robs, b0, b1, b2, b4]
                          refine vcall_k [2, 3] (hro) ?_ (hh := by simp [Dk.robs])
                          rintro r ob' ⟨rfl, rfl⟩
                          simp [Dk.obs, Dk.robs, b0, b1, b2, b4]
                          exact hK115 (d2, none, eo) _ (Gh.to_k [1, 5, 7, 9, 10, 11, 12, 13] [0, 1, 2, 3] (hh := by simp [Dk.obs, Dk.robs])) (⟨hd2, hb2, fun g hg => by cases hg⟩)
                        · obtain ⟨rfl, hfg⟩ := hfo g2 rfl
                          have hon := open_some hd hbt hq.symm
                          have hro := open_rsome hd hbt hq.symm
                          refine vwp_live [1, 5, 7, 13] (vwp_region hT ?_)
                          simp [Dk.obs, Dk.robs, b0, b1, b2, b4]
                          refine vcall_k [0, 1] (hon) ?_ (hh := by simp [Dk.obs])
                          rintro r ob' ⟨rfl, rfl⟩
                          simp [Dk.obs, Dk.robs, b0, b1, b2, b4]
                          refine hK155 _ ?_
                          try clear hK155 K155
                          refine vwp_live [1, 5, 7, 9, 10, 13] (vwp_region hT ?_)
                          simp [Dk.obs, Dk.robs, b0, b1, b2, b4]
                          refine vcall_k [2, 3] (hro) ?_ (hh := by simp [Dk.robs])
                          rintro r ob' ⟨rfl, rfl⟩
                          simp [Dk.obs, Dk.robs, b0, b1, b2, b4]
                          exact hK115 (d2, some g2, 0) _ (Gh.to_k [1, 5, 7, 9, 10, 11, 12, 13] [0, 1, 4, 5, 2, 3, 6, 7] (hh := by simp [Dk.obs, Dk.robs])) (⟨hd2, hb2, fun g hg => by cases hg; exact hfg.up (by have := hd2.n4; omega)⟩)
              · clear hd hbt hf
                rintro ⟨d, j, e⟩ ⟨hd, hbt, hf⟩
                dsimp only at hd hbt hf ⊢
                refine vwp_seq_k fun K156 hK156 => ?_
                rcases j with _ | g
                · dsimp only [doesS]
                  refine vwp_live [1, 5, 7, 9, 10, 11, 12, 13] (vwp_region hT ?_)
                  simp [Dk.obs, Dk.robs]
                  refine vcall_k [0, 1, 2, 3] (lsame_none (n := n) d hd) ?_ (hh := by simp)
                  rintro r ob' ⟨rfl, rfl⟩
                  simp [Dk.obs, Dk.robs]
                  refine hK156 _ ?_
                  try clear hK156 K156
                  refine vwp_cond (by first | rfl | (simp; rfl)) (fun h62 => ?_) fun h62 => ?_
                  · simp -failIfUnchanged at h62; all_goals
                   refine vwp_seq_k fun K157 hK157 => ?_
                   simp at *
                  · simp -failIfUnchanged at h62; all_goals
                   refine vwp_skip ?_
                   refine hK113 _ ?_
                   try clear hK113 K113
                   have w1 : IntKind.i64.wrap ((i : Int) + 1) = i + 1 := w64 (by omega) (by omega)
                   refine vwp_live [1, 5, 7, 9, 10, 11, 12, 13] (vwp_region hT ?_)
                   simp [Dk.obs, Dk.robs, w1]
                   exact hK110 (i + 1, d, none, e) _ (Gh.to_k [1, 5, 7, 9, 10, 11, 12, 13] [0, 1, 2, 3]) (⟨by dsimp only; omega, hd, hbt, fun g hg => by cases hg⟩) (by dsimp only; omega)
                · replace hf := hf g rfl
                  dsimp only [doesS]
                  refine vwp_live [1, 5, 7, 9, 10, 11, 12, 13] (vwp_region hT ?_)
                  simp [Dk.obs, Dk.robs]
                  refine vcall_k [0, 1, 2, 3, 4, 5, 6, 7] (lsame_some g (4000 + (i + 1)) (by omega) hf d hd) ?_ (hh := by simp)
                  rintro r ob' ⟨rfl, rfl⟩
                  simp [Dk.obs, Dk.robs]
                  refine hK156 _ ?_
                  try clear hK156 K156
                  refine vwp_cond (by first | rfl | (simp; rfl)) (fun h63 => ?_) fun h63 => ?_
                  · simp -failIfUnchanged at h63; all_goals
                   refine vwp_seq_k fun K158 hK158 => ?_
                   simp at *
                  · simp -failIfUnchanged at h63; all_goals
                   refine vwp_skip ?_
                   refine hK113 _ ?_
                   try clear hK113 K113
                   have w1 : IntKind.i64.wrap ((i : Int) + 1) = i + 1 := w64 (by omega) (by omega)
                   refine vwp_live [1, 5, 7, 9, 10, 11, 12, 13] (vwp_region hT ?_)
                   simp [Dk.obs, Dk.robs, w1]
                   exact hK110 (i + 1, d, some g, e) _ (Gh.to_k [1, 5, 7, 9, 10, 11, 12, 13] [0, 1, 2, 3, 4, 5, 6, 7]) (⟨by dsimp only; omega, hd, hbt, fun g' hg => by cases hg; exact hf⟩) (by dsimp only; omega)
             · simp -failIfUnchanged at h43; all_goals
              refine vwp_exit ?_
              simp only [inBlk, thenQ, if_true]
              refine hK108 _ ?_
              try clear hK108 K108
              refine vwp_sq [10, 12] fun K159 hK159 => vwp_region hT ?_
              simp [Dk.obs, Dk.robs]
              refine hK159 _ ?_
              try clear hK159 K159
              refine vwp_ret (hR _ _ ?_)
              exact ret_k [4] [] [] (.bool true) rfl
           · replace hf := hf g rfl
             dsimp only [doesS]
             refine vwp_live [1, 5, 7, 9, 10, 11, 12, 13] (vwp_region hT ?_)
             simp [Dk.obs, Dk.robs]
             refine hK112 _ ?_
             try clear hK112 K112
             refine vwp_cond (by first | rfl | (simp; rfl)) (fun h64 => ?_) fun h64 => ?_
             · simp -failIfUnchanged at h64; all_goals
              have q := h64
              obtain ⟨x, hx⟩ := getI (l := l) (i := i) (by omega)
              have hxm := List.mem_of_getElem? hx
              obtain ⟨hx1, hx2, hx3⟩ := hb x hxm
              have hx4 := hsm.mem hxm
              have hi40 := hsm.1
              have hdr := opsV_drop hx
              refine vwp_skip ?_
              refine hK111 _ ?_
              try clear hK111 K111
              refine vwp_seq_k fun K160 hK160 => ?_
              refine vwp_block ?_
              refine vwp_sq [1, 5, 7, 9, 10, 11, 12, 13] fun K161 hK161 => vwp_region hT ?_
              simp [Dk.obs, Dk.robs, hdr, opsV_length]
              repeat refine ⟨by first | assumption | omega | (intros; omega), ?_⟩
              refine hK161 _ ?_
              try clear hK161 K161
              refine vwp_cut_s (fun z : Dk × Option Lg × Int => doesS l n i z.1 z.2.1 z.2.2) (fun z => z.1.ok n ∧ byteL z.1.B ∧ ∀ g, z.2.1 = some g → g.fine n (4000 + (i + 1))) (fun K162 hK162 => ?_) ?_
              · refine vwp_block ?_
                refine vwp_seq_k fun K163 hK163 => ?_
                have hdoc : x.do_ = 2 ∨ x.do_ = 4 ∨ x.do_ = 0 ∨ x.do_ = 1 ∨ ((x.do_ == 0) = false ∧ (x.do_ == 1) = false ∧ (x.do_ == 2) = false ∧ (x.do_ == 4) = false) := by
                  simp only [beq_eq_false_iff_ne]
                  omega
                rcases hdoc with hdo | hdo | hdo | hdo | ⟨b0, b1, b2, b4⟩
                · refine vwp_live [1, 5, 7, 9, 10, 11, 12, 13, 14] (vwp_region hT ?_)
                  simp [Dk.obs, Dk.robs, hdo]
                  refine hK163 _ ?_
                  try clear hK163 K163
                  refine vwp_cond (by first | rfl | (simp; rfl)) (fun h65 => ?_) fun h65 => ?_
                  · simp -failIfUnchanged at h65; all_goals
                   refine vwp_sq [1, 5, 7, 9, 10, 11, 12, 13, 14] fun K164 hK164 => vwp_region hT ?_
                   simp [Dk.obs, Dk.robs, hdo]
                   refine vcall_k [0, 1] (fuse_spec d n x.a x.c) ?_ (hh := by simp [Dk.obs])
                   rintro r ob' ⟨rfl, rfl⟩
                   simp [Dk.obs, Dk.robs, hdo]
                   refine hK164 _ ?_
                   try clear hK164 K164
                   refine vwp_live [1, 5, 7, 9, 10, 11, 12, 13, 14] (vwp_region hT ?_)
                   simp [Dk.obs, Dk.robs, hdo]
                   refine vcall_k [4, 5] (rfuse_spec d x.a x.c) ?_ (hh := by simp [Dk.robs])
                   rintro r ob' ⟨rfl, rfl⟩
                   simp [Dk.obs, Dk.robs, hdo]
                   exact hK162 (d.fused x.a x.c, some g, e) _ (Gh.to_k [1, 5, 7, 9, 10, 11, 12, 13] [0, 1, 2, 3, 4, 5, 6, 7] (hh := by simp [Dk.obs, Dk.robs])) (⟨Dk.fused_ok hd x.a x.c hx3, hbt, fun g' hg => by cases hg; exact hf.up (by omega)⟩)
                  · simp -failIfUnchanged at h65; all_goals
                   refine vwp_seq_k fun K165 hK165 => ?_
                   simp at *
                · refine vwp_live [1, 5, 7, 9, 10, 11, 12, 13, 14] (vwp_region hT ?_)
                  simp [Dk.obs, Dk.robs, hdo]
                  refine hK163 _ ?_
                  try clear hK163 K163
                  refine vwp_cond (by first | rfl | (simp; rfl)) (fun h66 => ?_) fun h66 => ?_
                  · simp -failIfUnchanged at h66; all_goals
                   refine vwp_seq_k fun K166 hK166 => ?_
                   simp at *
                  · simp -failIfUnchanged at h66; all_goals
                   refine vwp_sq [1, 5, 7, 9, 10, 11, 12, 13, 14] fun K167 hK167 => vwp_region hT ?_
                   simp [Dk.obs, Dk.robs, hdo]
                   refine hK167 _ ?_
                   try clear hK167 K167
                   refine vwp_cond (by first | rfl | (simp; rfl)) (fun h67 => ?_) fun h67 => ?_
                   · simp -failIfUnchanged at h67; all_goals
                    have hts := turn_spec d n hd x.a (IntKind.u8.wrap x.c)
                    have hrs := rturn_spec d x.a (IntKind.u8.wrap x.c)
                    have htk := turn_ok hd hbt x.a (IntKind.u8.wrap x.c)
                    obtain ⟨tr, htr⟩ : ∃ tr, tr = d.turned x.a (IntKind.u8.wrap x.c) := ⟨_, rfl⟩
                    rw [← htr] at hts hrs htk
                    obtain ⟨te, d2⟩ := tr
                    dsimp only at hts hrs htk
                    refine vwp_sq [1, 5, 7, 9, 10, 11, 12, 13, 14] fun K168 hK168 => vwp_region hT ?_
                    simp [Dk.obs, Dk.robs, hdo]
                    repeat refine ⟨by first | assumption | omega | (intros; omega), ?_⟩
                    refine vcall_k [0, 1] (hts) ?_ (hh := by simp [Dk.obs])
                    rintro r ob' ⟨rfl, rfl⟩
                    simp [Dk.obs, Dk.robs, hdo]
                    repeat refine ⟨by first | assumption | omega | (intros; omega), ?_⟩
                    refine hK168 _ ?_
                    try clear hK168 K168
                    refine vwp_live [1, 5, 7, 9, 10, 11, 12, 13, 14] (vwp_region hT ?_)
                    simp [Dk.obs, Dk.robs, hdo]
                    repeat refine ⟨by first | assumption | omega | (intros; omega), ?_⟩
                    refine vcall_k [4, 5] (hrs) ?_ (hh := by simp [Dk.robs])
                    rintro r ob' ⟨rfl, rfl⟩
                    simp [Dk.obs, Dk.robs, hdo]
                    repeat refine ⟨by first | assumption | omega | (intros; omega), ?_⟩
                    exact hK162 (d2, some g, e) _ (Gh.to_k [1, 5, 7, 9, 10, 11, 12, 13] [0, 1, 2, 3, 4, 5, 6, 7] (hh := by simp [Dk.obs, Dk.robs])) (⟨htk.1, htk.2, fun g' hg => by cases hg; exact hf.up (by omega)⟩)
                   · simp -failIfUnchanged at h67; all_goals
                    refine vwp_seq_k fun K169 hK169 => ?_
                    simp at *
                · refine vwp_live [1, 5, 7, 9, 10, 11, 12, 13, 14] (vwp_region hT ?_)
                  simp [Dk.obs, Dk.robs, hdo]
                  refine hK163 _ ?_
                  try clear hK163 K163
                  refine vwp_cond (by first | rfl | (simp; rfl)) (fun h68 => ?_) fun h68 => ?_
                  · simp -failIfUnchanged at h68; all_goals
                   refine vwp_seq_k fun K170 hK170 => ?_
                   simp at *
                  · simp -failIfUnchanged at h68; all_goals
                   refine vwp_sq [1, 5, 7, 9, 10, 11, 12, 13, 14] fun K171 hK171 => vwp_region hT ?_
                   simp [Dk.obs, Dk.robs, hdo]
                   refine hK171 _ ?_
                   try clear hK171 K171
                   refine vwp_cond (by first | rfl | (simp; rfl)) (fun h69 => ?_) fun h69 => ?_
                   · simp -failIfUnchanged at h69; all_goals
                    refine vwp_seq_k fun K172 hK172 => ?_
                    simp at *
                   · simp -failIfUnchanged at h69; all_goals
                    refine vwp_sq [1, 5, 7, 9, 11, 13, 14] fun K173 hK173 => vwp_region hT ?_
                    simp [Dk.obs, Dk.robs, hdo]
                    refine hK173 _ ?_
                    try clear hK173 K173
                    refine vwp_cond (by first | rfl | (simp; rfl)) (fun h70 => ?_) fun h70 => ?_
                    · simp -failIfUnchanged at h70; all_goals
                     refine vwp_seq_k fun K174 hK174 => ?_
                     have hsp := append_spec g d n hd hf.hh (by have := hf.gm; omega) (by have := hf.rk; omega) hf.fn x.b hx2 (by omega)
                     have hrf := append_ref g d n hd hf.hh (by have := hf.gm; omega) (by have := hf.rk; omega) hf.fn x.b hx2 (by omega)
                     obtain ⟨q, hq⟩ : ∃ q, q = appendL g d n x.b := ⟨_, rfl⟩
                     rw [← hq] at hsp hrf
                     obtain ⟨e2, g2, d2⟩ := q
                     obtain ⟨hfg, hd2, hb2⟩ := append_fine hf hd hbt hx2 hq
                     dsimp only at hsp hrf
                     by_cases he0 : e2 = 0
                     · have hrf2 := hrf.mono fun r ob' q => (⟨q.1, rQ_ok he0 q.2⟩ : r = .int .i64 e2 ∧ ∃ old, ob' = [rlogP 4 g2, dskR d2, .live (bts d2.B), .live old, .live (g2.rows.map sB)])
                       refine vwp_live [1, 5, 7, 9, 11, 13, 14] (vwp_region hT ?_)
                       simp [Dk.obs, Dk.robs, hdo]
                       refine vcall_k [2, 0, 1, 3] (hsp) ?_ (hh := by simp [Dk.obs]) (ha := by simp)
                       rintro r ob' ⟨rfl, rfl⟩
                       simp [Dk.obs, Dk.robs, hdo]
                       refine hK174 _ ?_
                       try clear hK174 K174
                       refine vwp_live [1, 5, 7, 9, 10, 11, 13, 14] (vwp_region hT ?_)
                       simp [Dk.obs, Dk.robs, hdo]
                       refine vcall_k [6, 4, 5, 7] (hrf2) ?_ (hh := by simp [Dk.robs]) (ha := by simp)
                       rintro r ob' ⟨rfl, old, rfl⟩
                       simp [Dk.obs, Dk.robs, hdo]
                       exact hK162 (d2, some g2, e2) _ (Gh.to_k [1, 5, 7, 9, 10, 11, 12, 13] [0, 1, 2, 3, 4, 5, 6, 9] (hh := by simp [Dk.obs, Dk.robs])) (⟨hd2, hb2, fun g' hg => by cases hg; exact hfg.up (by omega)⟩)
                     · have hrf2 := hrf.mono fun r ob' q => (⟨q.1, rQ_bad he0 q.2⟩ : r = .int .i64 e2 ∧ ob' = rlobs g2 d2)
                       refine vwp_live [1, 5, 7, 9, 11, 13, 14] (vwp_region hT ?_)
                       simp [Dk.obs, Dk.robs, hdo]
                       refine vcall_k [2, 0, 1, 3] (hsp) ?_ (hh := by simp [Dk.obs]) (ha := by simp)
                       rintro r ob' ⟨rfl, rfl⟩
                       simp [Dk.obs, Dk.robs, hdo]
                       refine hK174 _ ?_
                       try clear hK174 K174
                       refine vwp_live [1, 5, 7, 9, 10, 11, 13, 14] (vwp_region hT ?_)
                       simp [Dk.obs, Dk.robs, hdo]
                       refine vcall_k [6, 4, 5, 7] (hrf2) ?_ (hh := by simp [Dk.robs]) (ha := by simp)
                       rintro r ob' ⟨rfl, rfl⟩
                       simp [Dk.obs, Dk.robs, hdo]
                       exact hK162 (d2, some g2, e2) _ (Gh.to_k [1, 5, 7, 9, 10, 11, 12, 13] [0, 1, 2, 3, 4, 5, 6, 7] (hh := by simp [Dk.obs, Dk.robs])) (⟨hd2, hb2, fun g' hg => by cases hg; exact hfg.up (by omega)⟩)
                    · simp -failIfUnchanged at h70; all_goals
                     refine vwp_seq_k fun K175 hK175 => ?_
                     simp at *
                · refine vwp_live [1, 5, 7, 9, 10, 11, 12, 13, 14] (vwp_region hT ?_)
                  simp [Dk.obs, Dk.robs, hdo]
                  refine hK163 _ ?_
                  try clear hK163 K163
                  refine vwp_cond (by first | rfl | (simp; rfl)) (fun h71 => ?_) fun h71 => ?_
                  · simp -failIfUnchanged at h71; all_goals
                   refine vwp_seq_k fun K176 hK176 => ?_
                   simp at *
                  · simp -failIfUnchanged at h71; all_goals
                   refine vwp_sq [1, 5, 7, 9, 10, 11, 12, 13, 14] fun K177 hK177 => vwp_region hT ?_
                   simp [Dk.obs, Dk.robs, hdo]
                   refine hK177 _ ?_
                   try clear hK177 K177
                   refine vwp_cond (by first | rfl | (simp; rfl)) (fun h72 => ?_) fun h72 => ?_
                   · simp -failIfUnchanged at h72; all_goals
                    refine vwp_seq_k fun K178 hK178 => ?_
                    simp at *
                   · simp -failIfUnchanged at h72; all_goals
                    refine vwp_sq [1, 5, 7, 9, 11, 13, 14] fun K179 hK179 => vwp_region hT ?_
                    simp [Dk.obs, Dk.robs, hdo]
                    refine hK179 _ ?_
                    try clear hK179 K179
                    refine vwp_cond (by first | rfl | (simp; rfl)) (fun h73 => ?_) fun h73 => ?_
                    · simp -failIfUnchanged at h73; all_goals
                     refine vwp_seq_k fun K180 hK180 => ?_
                     simp at *
                    · simp -failIfUnchanged at h73; all_goals
                     refine vwp_sq [1, 5, 7, 9, 11, 13, 14] fun K181 hK181 => vwp_region hT ?_
                     simp [Dk.obs, Dk.robs, hdo]
                     refine hK181 _ ?_
                     try clear hK181 K181
                     refine vwp_cond (by first | rfl | (simp; rfl)) (fun h74 => ?_) fun h74 => ?_
                     · simp -failIfUnchanged at h74; all_goals
                      refine vwp_seq_k fun K182 hK182 => ?_
                      have hmb : ∀ b ∈ manyL x, byteL b := fun b hb => by rw [manyL_mem hb]; exact hx2
                      have hmk := manyL_ok hx4
                      have hml := manyL_le x
                      have hms := many_spec x
                      have hrf := only_ref g d n hd hbt hf.hh hf.gm (manyL x) (by omega) hmb (fun b hb => by have := hmk.2 b hb; omega)
                      obtain ⟨q, hq⟩ : ∃ q, q = onlyL g d n (manyL x) := ⟨_, rfl⟩
                      rw [← hq] at hrf
                      obtain ⟨e2, g2, d2⟩ := q
                      obtain ⟨hfg, hd2, hb2⟩ := only_fine hf (by omega) hd hbt hmb hq
                      dsimp only at hrf
                      by_cases he0 : e2 = 0
                      · have hsp := only_ok hd hf.hh hf.gm (by omega) hmb (fun b hb => by have := hmk.2 b hb; omega) (he0 ▸ hq.symm)
                        have hrf2 := hrf.mono fun r ob' q => (⟨q.1, rQ_ok he0 q.2⟩ : r = .int .i64 e2 ∧ ∃ old, ob' = [rlogP 4 g2, dskR d2, .live (bts d2.B), .live old, .live (g2.rows.map sB)])
                        refine vwp_live [1, 5, 7, 9, 11, 13, 14] (vwp_region hT ?_)
                        simp [Dk.obs, Dk.robs, hdo]
                        refine vcall_k [] (hms) ?_ (ha := by simp [hdo])
                        rintro r ob' ⟨rfl, rfl⟩
                        simp [Dk.obs, Dk.robs, hdo]
                        refine vcall_freeze 9 (by rfl) (by intro c hc; obtain ⟨z, _, rfl⟩ := List.mem_map.1 hc; rfl) ?_
                        refine vcall_k [2, 0, 1, 3] (hsp) ?_ (hh := by simp [Dk.obs]) (ha := by simp [List.take_of_length_le]) (hok := by simp)
                        rintro r ob' ⟨rfl, old, rfl⟩
                        simp [Dk.obs, Dk.robs, hdo]
                        refine hK182 _ ?_
                        try clear hK182 K182
                        refine vwp_gh (st' := ⟨[(1, .fs l.length (opsV l)), (5, .ptr 0 5 0), (7, .ptr 4 5 0), (9, .ptr 2 6 0), (10, .int .i64 e2), (11, .ptr 6 6 0), (13, .int .i64 (i : Int)), (14, .ptr 8 4 0)], [dO 1 d2 n, .live (bts d2.B), lO 0 3 g2, .live (g2.rows.map sB), rdO 5 d, .live (bts d.B), rlO 4 7 g, .live (g.rows.map sB), .live x.cells]⟩) (Gh.to_k [1, 5, 7, 9, 10, 11, 13, 14] [0, 1, 2, 10, 4, 5, 6, 7, 8] (he := by simp [he0]) (hh := by simp [Dk.obs, Dk.robs, hdo])) ?_
                        refine vwp_live [1, 5, 7, 9, 10, 11, 13, 14] (vwp_region hT ?_)
                        simp [Dk.obs, Dk.robs, hdo]
                        refine vcall_k [] (hms) ?_ (ha := by simp [hdo])
                        rintro r ob' ⟨rfl, rfl⟩
                        simp [Dk.obs, Dk.robs, hdo]
                        refine vcall_freeze 9 (by rfl) (by intro c hc; obtain ⟨z, _, rfl⟩ := List.mem_map.1 hc; rfl) ?_
                        refine vcall_k [6, 4, 5, 7] (hrf2) ?_ (hh := by simp [Dk.robs]) (ha := by simp [List.take_of_length_le]) (hok := by simp)
                        rintro r ob' ⟨rfl, old2, rfl⟩
                        simp [Dk.obs, Dk.robs, hdo]
                        exact hK162 (d2, some g2, e2) _ (Gh.to_k [1, 5, 7, 9, 10, 11, 12, 13] [0, 1, 2, 3, 4, 5, 6, 10] (hh := by simp [Dk.obs, Dk.robs])) (⟨hd2, hb2, fun g' hg => by cases hg; exact hfg.up (by omega)⟩)
                      · have hsp := only_bad hd hf.hh hf.gm (by omega) hmb (fun b hb => by have := hmk.2 b hb; omega) hq.symm he0
                        have hrf2 := hrf.mono fun r ob' q => (⟨q.1, rQ_bad he0 q.2⟩ : r = .int .i64 e2 ∧ ob' = rlobs g2 d2)
                        refine vwp_live [1, 5, 7, 9, 11, 13, 14] (vwp_region hT ?_)
                        simp [Dk.obs, Dk.robs, hdo]
                        refine vcall_k [] (hms) ?_ (ha := by simp [hdo])
                        rintro r ob' ⟨rfl, rfl⟩
                        simp [Dk.obs, Dk.robs, hdo]
                        refine vcall_freeze 9 (by rfl) (by intro c hc; obtain ⟨z, _, rfl⟩ := List.mem_map.1 hc; rfl) ?_
                        refine vcall_k [2, 0, 1, 3] (hsp) ?_ (hh := by simp [Dk.obs]) (ha := by simp [List.take_of_length_le]) (hok := by simp)
                        rintro r ob' ⟨rfl, rfl⟩
                        simp [Dk.obs, Dk.robs, hdo]
                        refine hK182 _ ?_
                        try clear hK182 K182
                        refine vwp_gh (st' := ⟨[(1, .fs l.length (opsV l)), (5, .ptr 0 5 0), (7, .ptr 4 5 0), (9, .ptr 2 6 0), (10, .int .i64 e2), (11, .ptr 6 6 0), (13, .int .i64 (i : Int)), (14, .ptr 8 4 0)], [dO 1 d2 n, .live (bts d2.B), lO 0 3 g2, .live (g2.rows.map sB), rdO 5 d, .live (bts d.B), rlO 4 7 g, .live (g.rows.map sB), .live x.cells]⟩) (Gh.to_k [1, 5, 7, 9, 10, 11, 13, 14] [0, 1, 2, 3, 4, 5, 6, 7, 8] (hh := by simp [Dk.obs, Dk.robs, hdo])) ?_
                        refine vwp_live [1, 5, 7, 9, 10, 11, 13, 14] (vwp_region hT ?_)
                        simp [Dk.obs, Dk.robs, hdo]
                        refine vcall_k [] (hms) ?_ (ha := by simp [hdo])
                        rintro r ob' ⟨rfl, rfl⟩
                        simp [Dk.obs, Dk.robs, hdo]
                        refine vcall_freeze 9 (by rfl) (by intro c hc; obtain ⟨z, _, rfl⟩ := List.mem_map.1 hc; rfl) ?_
                        refine vcall_k [6, 4, 5, 7] (hrf2) ?_ (hh := by simp [Dk.robs]) (ha := by simp [List.take_of_length_le]) (hok := by simp)
                        rintro r ob' ⟨rfl, rfl⟩
                        simp [Dk.obs, Dk.robs, hdo]
                        exact hK162 (d2, some g2, e2) _ (Gh.to_k [1, 5, 7, 9, 10, 11, 12, 13] [0, 1, 2, 3, 4, 5, 6, 7] (hh := by simp [Dk.obs, Dk.robs])) (⟨hd2, hb2, fun g' hg => by cases hg; exact hfg.up (by omega)⟩)
                     · simp -failIfUnchanged at h74; all_goals
                      refine vwp_seq_k fun K183 hK183 => ?_
                      refine vwp_seq_k fun K184 hK184 => ?_
                      simp at *
                · refine vwp_live [1, 5, 7, 9, 10, 11, 12, 13, 14] (vwp_region hT ?_)
                  simp [Dk.obs, Dk.robs, b0, b1, b2, b4]
                  refine hK163 _ ?_
                  try clear hK163 K163
                  refine vwp_cond (by first | rfl | (simp; rfl)) (fun h75 => ?_) fun h75 => ?_
                  · simp -failIfUnchanged at h75; all_goals
                   refine vwp_seq_k fun K185 hK185 => ?_
                   simp at *
                  · simp -failIfUnchanged at h75; all_goals
                   refine vwp_sq [1, 5, 7, 9, 10, 11, 12, 13, 14] fun K186 hK186 => vwp_region hT ?_
                   simp [Dk.obs, Dk.robs, b0, b1, b2, b4]
                   refine hK186 _ ?_
                   try clear hK186 K186
                   refine vwp_cond (by first | rfl | (simp; rfl)) (fun h76 => ?_) fun h76 => ?_
                   · simp -failIfUnchanged at h76; all_goals
                    refine vwp_seq_k fun K187 hK187 => ?_
                    simp at *
                   · simp -failIfUnchanged at h76; all_goals
                    refine vwp_sq [1, 5, 7, 9, 11, 13, 14] fun K188 hK188 => vwp_region hT ?_
                    simp [Dk.obs, Dk.robs, b0, b1, b2, b4]
                    refine hK188 _ ?_
                    try clear hK188 K188
                    refine vwp_cond (by first | rfl | (simp; rfl)) (fun h77 => ?_) fun h77 => ?_
                    · simp -failIfUnchanged at h77; all_goals
                     refine vwp_seq_k fun K189 hK189 => ?_
                     simp at *
                    · simp -failIfUnchanged at h77; all_goals
                     refine vwp_sq [1, 5, 7, 9, 11, 13, 14] fun K190 hK190 => vwp_region hT ?_
                     simp [Dk.obs, Dk.robs, b0, b1, b2, b4]
                     refine hK190 _ ?_
                     try clear hK190 K190
                     refine vwp_cond (by first | rfl | (simp; rfl)) (fun h78 => ?_) fun h78 => ?_
                     · simp -failIfUnchanged at h78; all_goals
                      refine vwp_seq_k fun K191 hK191 => ?_
                      simp at *
                     · simp -failIfUnchanged at h78; all_goals
                      refine vwp_cut_s (fun z : Dk => ⟨[(1, .fs l.length (opsV l)), (5, .ptr 0 5 0), (7, .ptr 2 5 0), (13, .int .i64 (i : Int))], sobs4 z n⟩) (fun z => z.ok n ∧ byteL z.B) (fun K192 hK192 => ?_) ?_
                      · refine vwp_sq [1, 5, 7, 13, 14] fun K193 hK193 => vwp_region hT ?_
                        simp [Dk.obs, Dk.robs, b0, b1, b2, b4]
                        refine hK193 _ ?_
                        try clear hK193 K193
                        refine vwp_cond (by first | rfl | (simp; rfl)) (fun h79 => ?_) fun h79 => ?_
                        · simp -failIfUnchanged at h79; all_goals
                         refine vwp_sq [1, 5, 7, 13] fun K194 hK194 => vwp_region hT ?_
                         simp [Dk.obs, Dk.robs, b0, b1, b2, b4]
                         refine vcall_k [0, 1] (crash_spec d n) ?_ (hh := by simp [Dk.obs])
                         rintro r ob' ⟨rfl, rfl⟩
                         simp [Dk.obs, Dk.robs, b0, b1, b2, b4]
                         refine hK194 _ ?_
                         try clear hK194 K194
                         refine vwp_live [1, 5, 7, 13] (vwp_region hT ?_)
                         simp [Dk.obs, Dk.robs, b0, b1, b2, b4]
                         refine vcall_k [4, 5] (rcrash_spec d) ?_ (hh := by simp [Dk.robs])
                         rintro r ob' ⟨rfl, rfl⟩
                         simp [Dk.obs, Dk.robs, b0, b1, b2, b4]
                         exact hK192 d.crashed _ (Gh.to_k [1, 5, 7, 13] [0, 1, 4, 5] (hh := by simp [Dk.obs, Dk.robs])) ⟨Dk.crashed_ok hd, hbt⟩
                        · simp -failIfUnchanged at h79; all_goals
                         refine vwp_skip ?_
                         exact hK192 d _ (Gh.to_k [1, 5, 7, 13] [0, 1, 4, 5] (hh := by simp [Dk.obs, Dk.robs])) ⟨hd, hbt⟩
                      · clear hd hbt hf
                        rintro d ⟨hd, hbt⟩
                        refine vwp_seq_k fun K195 hK195 => ?_
                        obtain ⟨q, hq⟩ : ∃ q, q = openL d n := ⟨_, rfl⟩
                        obtain ⟨jo, eo, d2⟩ := q
                        obtain ⟨hd2, hb2, hfo⟩ := open_fine hd hbt hq
                        rcases jo with _ | g2
                        · have hon := open_none hd hbt hq.symm
                          have hro := open_rnone hd hbt hq.symm
                          refine vwp_live [1, 5, 7, 13] (vwp_region hT ?_)
                          simp [Dk.obs, Dk.robs, b0, b1, b2, b4]
                          refine vcall_k [0, 1] (hon) ?_ (hh := by simp [Dk.obs])
                          rintro r ob' ⟨rfl, rfl⟩
                          simp [Dk.obs, Dk.robs, b0, b1, b2, b4]
                          refine hK195 _ ?_
                          try clear hK195 K195
                          refine vwp_live [1, 5, 7, 9, 10, 13] (vwp_region hT ?_)
                          simp [Dk.obs, Dk.robs, b0, b1, b2, b4]
                          refine vcall_k [2, 3] (hro) ?_ (hh := by simp [Dk.robs])
                          rintro r ob' ⟨rfl, rfl⟩
                          simp [Dk.obs, Dk.robs, b0, b1, b2, b4]
                          exact hK162 (d2, none, eo) _ (Gh.to_k [1, 5, 7, 9, 10, 11, 12, 13] [0, 1, 2, 3] (hh := by simp [Dk.obs, Dk.robs])) (⟨hd2, hb2, fun g hg => by cases hg⟩)
                        · obtain ⟨rfl, hfg⟩ := hfo g2 rfl
                          have hon := open_some hd hbt hq.symm
                          have hro := open_rsome hd hbt hq.symm
                          refine vwp_live [1, 5, 7, 13] (vwp_region hT ?_)
                          simp [Dk.obs, Dk.robs, b0, b1, b2, b4]
                          refine vcall_k [0, 1] (hon) ?_ (hh := by simp [Dk.obs])
                          rintro r ob' ⟨rfl, rfl⟩
                          simp [Dk.obs, Dk.robs, b0, b1, b2, b4]
                          refine hK195 _ ?_
                          try clear hK195 K195
                          refine vwp_live [1, 5, 7, 9, 10, 13] (vwp_region hT ?_)
                          simp [Dk.obs, Dk.robs, b0, b1, b2, b4]
                          refine vcall_k [2, 3] (hro) ?_ (hh := by simp [Dk.robs])
                          rintro r ob' ⟨rfl, rfl⟩
                          simp [Dk.obs, Dk.robs, b0, b1, b2, b4]
                          exact hK162 (d2, some g2, 0) _ (Gh.to_k [1, 5, 7, 9, 10, 11, 12, 13] [0, 1, 4, 5, 2, 3, 6, 7] (hh := by simp [Dk.obs, Dk.robs])) (⟨hd2, hb2, fun g hg => by cases hg; exact hfg.up (by have := hd2.n4; omega)⟩)
              · clear hd hbt hf
                rintro ⟨d, j, e⟩ ⟨hd, hbt, hf⟩
                dsimp only at hd hbt hf ⊢
                refine vwp_seq_k fun K196 hK196 => ?_
                rcases j with _ | g
                · dsimp only [doesS]
                  refine vwp_live [1, 5, 7, 9, 10, 11, 12, 13] (vwp_region hT ?_)
                  simp [Dk.obs, Dk.robs]
                  refine vcall_k [0, 1, 2, 3] (lsame_none (n := n) d hd) ?_ (hh := by simp)
                  rintro r ob' ⟨rfl, rfl⟩
                  simp [Dk.obs, Dk.robs]
                  refine hK196 _ ?_
                  try clear hK196 K196
                  refine vwp_cond (by first | rfl | (simp; rfl)) (fun h80 => ?_) fun h80 => ?_
                  · simp -failIfUnchanged at h80; all_goals
                   refine vwp_seq_k fun K197 hK197 => ?_
                   simp at *
                  · simp -failIfUnchanged at h80; all_goals
                   refine vwp_skip ?_
                   refine hK160 _ ?_
                   try clear hK160 K160
                   have w1 : IntKind.i64.wrap ((i : Int) + 1) = i + 1 := w64 (by omega) (by omega)
                   refine vwp_live [1, 5, 7, 9, 10, 11, 12, 13] (vwp_region hT ?_)
                   simp [Dk.obs, Dk.robs, w1]
                   exact hK110 (i + 1, d, none, e) _ (Gh.to_k [1, 5, 7, 9, 10, 11, 12, 13] [0, 1, 2, 3]) (⟨by dsimp only; omega, hd, hbt, fun g hg => by cases hg⟩) (by dsimp only; omega)
                · replace hf := hf g rfl
                  dsimp only [doesS]
                  refine vwp_live [1, 5, 7, 9, 10, 11, 12, 13] (vwp_region hT ?_)
                  simp [Dk.obs, Dk.robs]
                  refine vcall_k [0, 1, 2, 3, 4, 5, 6, 7] (lsame_some g (4000 + (i + 1)) (by omega) hf d hd) ?_ (hh := by simp)
                  rintro r ob' ⟨rfl, rfl⟩
                  simp [Dk.obs, Dk.robs]
                  refine hK196 _ ?_
                  try clear hK196 K196
                  refine vwp_cond (by first | rfl | (simp; rfl)) (fun h81 => ?_) fun h81 => ?_
                  · simp -failIfUnchanged at h81; all_goals
                   refine vwp_seq_k fun K198 hK198 => ?_
                   simp at *
                  · simp -failIfUnchanged at h81; all_goals
                   refine vwp_skip ?_
                   refine hK160 _ ?_
                   try clear hK160 K160
                   have w1 : IntKind.i64.wrap ((i : Int) + 1) = i + 1 := w64 (by omega) (by omega)
                   refine vwp_live [1, 5, 7, 9, 10, 11, 12, 13] (vwp_region hT ?_)
                   simp [Dk.obs, Dk.robs, w1]
                   exact hK110 (i + 1, d, some g, e) _ (Gh.to_k [1, 5, 7, 9, 10, 11, 12, 13] [0, 1, 2, 3, 4, 5, 6, 7]) (⟨by dsimp only; omega, hd, hbt, fun g' hg => by cases hg; exact hf⟩) (by dsimp only; omega)
             · simp -failIfUnchanged at h64; all_goals
              refine vwp_exit ?_
              simp only [inBlk, thenQ, if_true]
              refine hK108 _ ?_
              try clear hK108 K108
              refine vwp_sq [10, 12] fun K199 hK199 => vwp_region hT ?_
              simp [Dk.obs, Dk.robs]
              refine hK199 _ ?_
              try clear hK199 K199
              refine vwp_ret (hR _ _ ?_)
              exact ret_k [4] [] [] (.bool true) rfl
    · refine vwp_live [0, 1] (vwp_region hT ?_)
      simp [Dk.obs, Dk.robs]
      refine vcall_k [] (new_spec s) ?_
      rintro r ob' q2
      rw [if_neg hs] at q2
      obtain ⟨rfl, rfl⟩ := q2
      simp [Dk.obs, Dk.robs]
      refine hK8 _ ?_
      try clear hK8 K8
      refine vwp_sq [0, 1, 5] fun K200 hK200 => vwp_region hT ?_
      simp [Dk.obs, Dk.robs]
      refine vcall_k [] (rnew_spec s) ?_
      rintro r ob' q2
      rw [if_neg hs] at q2
      obtain ⟨rfl, rfl⟩ := q2
      simp [Dk.obs, Dk.robs]
      refine hK200 _ ?_
      try clear hK200 K200
      refine vwp_seq_k fun K201 hK201 => ?_
      refine vwp_sq [1, 5, 7] fun K202 hK202 => vwp_region hT ?_
      simp [Dk.obs, Dk.robs]
      refine hK202 _ ?_
      try clear hK202 K202
      refine vwp_cond (by first | rfl | (simp; rfl)) (fun h82 => ?_) fun h82 => ?_
      · simp -failIfUnchanged at h82; all_goals
       refine vwp_sq [5, 7] fun K203 hK203 => vwp_region hT ?_
       simp [Dk.obs, Dk.robs]
       refine hK203 _ ?_
       try clear hK203 K203
       refine vwp_ret (hR _ _ ?_)
       exact ret_k [4] [] [] (.bool true) rfl
      · simp -failIfUnchanged at h82; all_goals
       refine vwp_skip ?_
       refine hK201 _ ?_
       try clear hK201 K201
       refine vwp_seq_k fun K204 hK204 => ?_
       simp at *
end Go.Proofs.Ytifhbgppjblobaa
