/- What is drawn, exactly and by lot, in two cases; the document does it as well. -/
import Derived.Test.YthjpaongoflgiaaShapQ2
namespace Go.Proofs.Ythjpaongoflgiaa
open Go Go.VX Go.RowKit
set_option linter.unusedVariables false
set_option linter.unusedSimpArgs false
set_option maxHeartbeats 20000000
set_option maxRecDepth 100000

theorem mayB_not {n : Int} {g : List Int} (h : ¬ (0 ≤ n ∧ n ≤ 6)) : mayB n g = false := by
  cases hm : mayB n g with
  | false => rfl
  | true => obtain ⟨m, rfl, h6, _⟩ := mayB_m hm; omega
theorem exact_bad {n : Int} {g : List Int} (hl : g.length < 1099511627776) (h : mayB n g = false) : VC P 21 [.int .i64 n, sI g] [] (fun r ob' => r = .tup [.nils, .int .i64 0, .int .i64 1] ∧ ob' = []) :=
  (exact_spec n g hl).mono fun r ob' q => by
    rcases q with q | q
    · exact q.2
    · rw [h] at q; cases q.1
theorem exact_ok {m : Nat} {g : List Int} (hl : g.length < 1099511627776) (h : mayB (m : Int) g = true) : VC P 21 [.int .i64 m, sI g] [] (fun r ob' => r = .tup [.sl 0 m 1 0 m, .int .i64 (fct m : Int), .int .i64 0] ∧ ob' = [.live ((exactL m g).map (.int .i64))]) :=
  (exact_spec m g hl).mono fun r ob' q => by
    rcases q with q | q
    · rw [h] at q; cases q.1
    · simpa using q.2
abbrev SampOK (k : Nat) : Prop := ∀ {m : Nat} {g : List Int} {os : List (List Int)}, g.length < 1099511627776 → os.length < 1099511627776 → (∀ l ∈ os, l.length < 1099511627776) → sampE (m : Int) g os = 0 → VC P k [.int .i64 m, sI g, sLL os] [] (fun r ob' => r = .tup [.sl 0 m 1 0 m, .int .i64 os.length, .int .i64 0] ∧ ob' = [.live ((sampL m g os).map (.int .i64))])
abbrev SampBad (k : Nat) : Prop := ∀ {n : Int} {g : List Int} {os : List (List Int)}, g.length < 1099511627776 → os.length < 1099511627776 → (∀ l ∈ os, l.length < 1099511627776) → sampE n g os ≠ 0 → VC P k [.int .i64 n, sI g, sLL os] [] (fun r ob' => r = .tup [.nils, .int .i64 0, .int .i64 (sampE n g os)] ∧ ob' = [])
theorem samp_ok : SampOK 23 := fun {m g os} hl ho hos h => (samp_spec m g os hl ho hos).mono fun r ob' q => by
    rcases q with q | q
    · exact absurd h q.1
    · simpa using q.2
theorem samp_bad : SampBad 23 := fun {m g os} hl ho hos h => (samp_spec m g os hl ho hos).mono fun r ob' q => by
    rcases q with q | q
    · exact q.2
    · exact absurd q.1 h
theorem rsamp_ok : SampOK 24 := fun {m g os} hl ho hos h => (rsamp_spec m g os hl ho hos).mono fun r ob' q => by
    rcases q with q | q
    · exact absurd h q.1
    · simpa using q.2
theorem rsamp_bad : SampBad 24 := fun {m g os} hl ho hos h => (rsamp_spec m g os hl ho hos).mono fun r ob' q => by
    rcases q with q | q
    · exact q.2
    · exact absurd q.1 h
theorem orders_small {m : Nat} (hm : m ≤ 6) : (ordersL m).length < 1099511627776 ∧ (∀ l ∈ ordersL m, l.length < 1099511627776) ∧ 0 < (ordersL m).length ∧ (ordersL m).length ≤ 720 := by
  have h1 := fct_le m hm
  have h2 : 0 < fct m := by
    have : ∀ n, 0 < fct n := fun n => by
      induction n with
      | zero => decide
      | succ n ih => rw [fct_succ]; exact Nat.mul_pos (by omega) ih
    exact this m
  rw [ordersL_len]
  refine ⟨by omega, fun l hl => ?_, h2, h1⟩
  have := (orders_perm hl).length_eq
  rw [rangeI_len] at this
  omega
theorem orders_sampE {m : Nat} {g : List Int} (h : mayB (m : Int) g = true) : sampE (m : Int) g (ordersL m) = 0 := by
  obtain ⟨m', e, h6, _⟩ := mayB_m h
  obtain rfl : m = m' := by omega
  have hs := orders_small h6
  refine sampE_0 h ?_ fun l hl => orders_isB hl
  rintro (q | q)
  · rw [q] at hs; simp at hs
  · omega
theorem rexact_ok {m : Nat} {g : List Int} (hl : g.length < 1099511627776) (h : mayB (m : Int) g = true) (h6 : m ≤ 6) : VC P 22 [.int .i64 m, sI g] [] (fun r ob' => r = .tup [.sl 0 m 1 0 m, .int .i64 (fct m : Int), .int .i64 0] ∧ ob' = [.live ((exactL m g).map (.int .i64))]) := by
  refine VC_of_vwp_k ent_22 Try.func22 rfl (by simp) fun R hR => ?_
  refine vwp_sq [0, 1] fun K1 hK1 => vwp_region hT ?_
  simp
  refine hK1 _ ?_
  try clear hK1 K1
  have hs := orders_small h6
  have hr := rorders_spec m h6
  rw [refL_orders h6] at hr
  refine vwp_sq [0, 1] fun K2 hK2 => vwp_region hT ?_
  simp
  refine vcall_k [] (hr) ?_
  rintro r ob' ⟨rfl, rfl⟩
  simp
  refine vcall_freeze 0 (by rfl) (by intro c hc; simp at hc; obtain ⟨z, _, rfl⟩ := hc; rfl) ?_
  refine vcall_k [] (rsamp_ok (m := m) (g := g) (os := ordersL m) hl hs.1 hs.2.1 (orders_sampE h)) ?_
  rintro r ob' ⟨rfl, rfl⟩
  simp
  refine hK2 _ ?_
  try clear hK2 K2
  refine vwp_ret (hR _ _ ?_)
  exact ret_k [4, 5, 6] [1] ([.live ((exactL m g).map (.int .i64))]) (.tup [.sl 0 m 1 0 m, .int .i64 (fct m : Int), .int .i64 0]) (⟨rfl, rfl⟩) (hh := by simp [exact_samp g h6]) (hr := by simp [ordersL_len])
theorem rexact_bad {n : Int} {g : List Int} (hl : g.length < 1099511627776) (h : mayB n g = false) : VC P 22 [.int .i64 n, sI g] [] (fun r ob' => r = .tup [.nils, .int .i64 0, .int .i64 1] ∧ ob' = []) := by
  refine VC_of_vwp_k ent_22 Try.func22 rfl (by simp) fun R hR => ?_
  refine vwp_sq [0, 1] fun K1 hK1 => vwp_region hT ?_
  simp
  refine hK1 _ ?_
  try clear hK1 K1
  refine vwp_seq_k fun K2 hK2 => ?_
  by_cases h6 : 0 ≤ n ∧ n ≤ 6
  · obtain ⟨m, rfl⟩ := Int.eq_ofNat_of_zero_le h6.1
    have h6 : m ≤ 6 := by omega
    have hs := orders_small h6
    have hr := rorders_spec m h6
    rw [refL_orders h6] at hr
    have he := sampE_1 (os := ordersL m) h
    refine vwp_live [0, 1] (vwp_region hT ?_)
    simp [he]
    refine vcall_k [] (hr) ?_
    rintro r ob' ⟨rfl, rfl⟩
    simp [he]
    refine vcall_freeze 0 (by rfl) (by intro c hc; simp at hc; obtain ⟨z, _, rfl⟩ := hc; rfl) ?_
    refine vcall_k [] (rsamp_bad (n := m) (g := g) (os := ordersL m) hl hs.1 hs.2.1 (by rw [he]; decide)) ?_
    rintro r ob' ⟨rfl, rfl⟩
    simp [he]
    refine hK2 _ ?_
    try clear hK2 K2
    refine vwp_ret (hR _ _ ?_)
    exact ret_k [4, 5, 6] [] ([]) (.tup [.nils, .int .i64 0, .int .i64 1]) (⟨rfl, rfl⟩)
  · have he := sampE_1 (os := []) h
    refine vwp_live [0, 1] (vwp_region hT ?_)
    simp [he]
    refine vcall_k [] (rorders_bad n h6) ?_
    rintro r ob' ⟨rfl, rfl⟩
    simp [he]
    refine vcall_freeze 0 (by rfl) (by simp) ?_
    refine vcall_k [] (rsamp_bad (n := n) (g := g) (os := []) hl (by simp) (by simp) (by rw [he]; decide)) ?_
    rintro r ob' ⟨rfl, rfl⟩
    simp [he]
    refine hK2 _ ?_
    try clear hK2 K2
    refine vwp_ret (hR _ _ ?_)
    exact ret_k [4, 5, 6] [] ([]) (.tup [.nils, .int .i64 0, .int .i64 1]) (⟨rfl, rfl⟩)
theorem large_spec (g : List Int) (os : List (List Int)) (hg : g.length ≤ 140737488355328) (ho : os.length ≤ 140737488355328) (hos : ∀ l ∈ os, l.length ≤ 140737488355328) : VC P 20 [sI g, sLL os] [] (fun r ob' => ∃ b, r = .bool b ∧ ob' = [] ∧ (b = false → g.length ≤ 200 ∧ os.length ≤ 1100 ∧ ∀ l ∈ os, l.length ≤ 11000)) := by
  refine VC_of_vwp_k ent_20 Try.func20 rfl (by simp) fun R hR => ?_
  refine vwp_sq [0, 1] fun K1 hK1 => vwp_region hT ?_
  simp
  refine hK1 _ ?_
  try clear hK1 K1
  refine vwp_sq [0, 1] fun K2 hK2 => vwp_region hT ?_
  simp
  refine hK2 _ ?_
  try clear hK2 K2
  refine vwp_seq_k fun K3 hK3 => ?_
  refine vwp_sq [0, 1, 5] fun K4 hK4 => vwp_region hT ?_
  simp
  refine hK4 _ ?_
  try clear hK4 K4
  refine vwp_block ?_
  refine vwp_loop_s (fun z : Nat × Nat => ⟨[(0, sI g), (1, sLL os), (5, .int .i64 (z.2 : Int)), (6, .int .i64 (z.1 : Int))], []⟩) (fun z => z.1 ≤ os.length ∧ z.2 ≤ 140737488366329 ∧ ∀ (j : Nat) l, j < z.1 → os[j]? = some l → l.length + 1 ≤ z.2) (fun z => os.length - z.1) ((0, 0)) (Gh.to_k [0, 1, 5, 6] []) (⟨by simp, by simp, fun j l h => by simp at h⟩) ?_
  rintro ⟨i, N⟩ ⟨hi, hN, hj⟩
  dsimp only at hi hN hj ⊢
  intro K5 hK5
  refine vwp_seq_k fun K6 hK6 => ?_
  refine vwp_seq_k fun K7 hK7 => ?_
  rcases Nat.lt_or_ge i os.length with hlt | hge
  · refine vwp_live [0, 1, 5, 6] (vwp_region hT ?_)
    simp [hlt]
    refine hK7 _ ?_
    try clear hK7 K7
    refine vwp_cond (by first | rfl | (simp; rfl)) (fun h1 => ?_) fun h1 => ?_
    · simp -failIfUnchanged at h1; all_goals
     refine vwp_skip ?_
     refine hK6 _ ?_
     try clear hK6 K6
     refine vwp_seq_k fun K8 hK8 => ?_
     refine vwp_block ?_
     obtain ⟨l, hl⟩ := getI (l := os) (i := i) (by omega)
     have hll := hos l (List.mem_of_getElem? hl)
     have w2 : IntKind.i64.wrap ((l.length : Int) + 1) = (l.length : Int) + 1 := w64 (by omega) (by omega)
     have w3 : IntKind.i64.wrap ((N : Int) + ((l.length : Int) + 1)) = (N : Int) + ((l.length : Int) + 1) := w64 (by omega) (by omega)
     refine vwp_live [0, 1, 5, 6] (vwp_region hT ?_)
     simp [hl, w2, w3]
     repeat refine ⟨by first | assumption | omega | (intros; omega), ?_⟩
     refine hK8 _ ?_
     try clear hK8 K8
     have w1 : IntKind.i64.wrap ((i : Int) + 1) = i + 1 := w64 (by omega) (by omega)
     refine vwp_live [0, 1, 5, 6] (vwp_region hT ?_)
     simp [w1]
     exact hK5 ((i + 1, N + (l.length + 1))) _ (Gh.to_k [0, 1, 5, 6] []) (⟨by dsimp only; omega, by dsimp only; omega, fun j z hj2 hz => by
       dsimp only at hj2 ⊢
       by_cases e : j = i
       · subst e; rw [hl] at hz; cases hz; omega
       · have := hj j z (by omega) hz; omega⟩) (by dsimp only; omega)
    · simp -failIfUnchanged at h1; all_goals
     refine vwp_exit ?_
     simp only [inBlk, thenQ, if_true]
     refine hK3 _ ?_
     try clear hK3 K3
     refine vwp_sq [0, 1, 5] fun K9 hK9 => vwp_region hT ?_
     simp
     refine hK9 _ ?_
     try clear hK9 K9
     refine vwp_ret (hR _ _ ?_)
     exact ret_k [4] [] ([]) (.bool (decide (200 < (g.length : Int)) || decide (1100 < (os.length : Int)) || decide (11000 < (N : Int)))) (⟨_, rfl, rfl, fun hb => by
       simp only [Bool.or_eq_false_iff, decide_eq_false_iff_not] at hb
       first
       | (exfalso; omega)
       | (refine ⟨by omega, by omega, fun l hl => ?_⟩
          obtain ⟨j, hj2⟩ := List.getElem?_of_mem hl
          have hjl := (List.getElem?_eq_some_iff.1 hj2).1
          have := hj j l (by omega) hj2
          omega)⟩)
  · have hnl : ¬ i < os.length := by omega
    refine vwp_live [0, 1, 5, 6] (vwp_region hT ?_)
    simp [hnl]
    refine hK7 _ ?_
    try clear hK7 K7
    refine vwp_cond (by first | rfl | (simp; rfl)) (fun h2 => ?_) fun h2 => ?_
    · simp -failIfUnchanged at h2; all_goals
     refine vwp_skip ?_
     refine hK6 _ ?_
     try clear hK6 K6
     refine vwp_seq_k fun K10 hK10 => ?_
     refine vwp_block ?_
     skip
    · simp -failIfUnchanged at h2; all_goals
     refine vwp_exit ?_
     simp only [inBlk, thenQ, if_true]
     refine hK3 _ ?_
     try clear hK3 K3
     refine vwp_sq [0, 1, 5] fun K11 hK11 => vwp_region hT ?_
     simp
     refine hK11 _ ?_
     try clear hK11 K11
     refine vwp_ret (hR _ _ ?_)
     exact ret_k [4] [] ([]) (.bool (decide (200 < (g.length : Int)) || decide (1100 < (os.length : Int)) || decide (11000 < (N : Int)))) (⟨_, rfl, rfl, fun hb => by
       simp only [Bool.or_eq_false_iff, decide_eq_false_iff_not] at hb
       first
       | (exfalso; omega)
       | (refine ⟨by omega, by omega, fun l hl => ?_⟩
          obtain ⟨j, hj2⟩ := List.getElem?_of_mem hl
          have hjl := (List.getElem?_eq_some_iff.1 hj2).1
          have := hj j l (by omega) hj2
          omega)⟩)
end Go.Proofs.Ythjpaongoflgiaa
