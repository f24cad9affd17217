/- What the functions of layer 14 tell, whatever they are asked; the first statement. -/
import Derived.Test.YthjpaongoflgiaaShap15
namespace Go.Proofs.Ythjpaongoflgiaa
open Go Go.VX Go.RowKit
set_option linter.unusedVariables false
set_option linter.unusedSimpArgs false
set_option maxHeartbeats 20000000
set_option maxRecDepth 100000

def exU (n : Int) (g : List Int) : List Int := if mayB n g then exactL n.toNat g else []
def exN (n : Int) (g : List Int) : Int := if mayB n g then (fct n.toNat : Int) else 0
def exE (n : Int) (g : List Int) : Int := if mayB n g then 0 else 1
abbrev rowO (L : List Int) : Ob := .live (L.map (.int .i64))
abbrev ExU (k : Nat) : Prop := ∀ (n : Int) (g : List Int), g.length < 1099511627776 → VC P k [.int .i64 n, sI g] [] (fun r ob' => r = .tup [.sl 0 (exU n g).length 1 0 (exU n g).length, .int .i64 (exN n g), .int .i64 (exE n g)] ∧ ob' = [rowO (exU n g)])
theorem exact_u : ExU 21 := fun n g hl => by
  unfold exU exN exE
  cases h : mayB n g with
  | false => exact (exact_bad hl h).virt fun r ob' q => .inr (.inr ⟨_, q.1, by rw [q.2]; exact ⟨rfl, rfl⟩⟩)
  | true =>
    obtain ⟨m, rfl, h6, _⟩ := mayB_m h
    exact (exact_ok hl h).mono fun r ob' q => by simpa [exactL] using q
theorem rexact_u : ExU 22 := fun n g hl => by
  unfold exU exN exE
  cases h : mayB n g with
  | false => exact (rexact_bad hl h).virt fun r ob' q => .inr (.inr ⟨_, q.1, by rw [q.2]; exact ⟨rfl, rfl⟩⟩)
  | true =>
    obtain ⟨m, rfl, h6, _⟩ := mayB_m h
    exact (rexact_ok hl h h6).mono fun r ob' q => by simpa [exactL] using q
def saU (n : Int) (g : List Int) (os : List (List Int)) : List Int := if sampE n g os = 0 then sampL n.toNat g os else []
def saN (n : Int) (g : List Int) (os : List (List Int)) : Int := if sampE n g os = 0 then (os.length : Int) else 0
theorem sampE_may {n : Int} {g : List Int} {os : List (List Int)} (h : sampE n g os = 0) : mayB n g = true := by
  cases hm : mayB n g with
  | true => rfl
  | false => rw [sampE_1 hm] at h; cases h
theorem sampL_length (m : Nat) (g : List Int) (os : List (List Int)) : (sampL m g os).length = m := by rw [sampL, sampL_len]; simp
abbrev SaU (k : Nat) : Prop := ∀ (n : Int) (g : List Int) (os : List (List Int)), g.length < 1099511627776 → os.length < 1099511627776 → (∀ l ∈ os, l.length < 1099511627776) → VC P k [.int .i64 n, sI g, sLL os] [] (fun r ob' => r = .tup [.sl 0 (saU n g os).length 1 0 (saU n g os).length, .int .i64 (saN n g os), .int .i64 (sampE n g os)] ∧ ob' = [rowO (saU n g os)])
theorem samp_of {k : Nat} (h1 : SampOK k) (h2 : SampBad k) : SaU k := fun n g os hl ho hos => by
  by_cases h : sampE n g os = 0
  · obtain ⟨m, rfl, h6, _⟩ := mayB_m (sampE_may h)
    exact (h1 hl ho hos h).mono fun r ob' q => by simpa [saU, saN, h, sampL_length] using q
  · simp only [saU, saN, if_neg h]
    exact (h2 hl ho hos h).virt fun r ob' q => .inr (.inr ⟨_, q.1, by rw [q.2]; exact ⟨rfl, rfl⟩⟩)
theorem samp_u : SaU 23 := samp_of samp_ok samp_bad
theorem rsamp_u : SaU 24 := samp_of rsamp_ok rsamp_bad
def ordIn (n : Int) (ds : List Int) : Bool := decide (0 ≤ n) && decide (n ≤ 6) && decide ((ds.length : Int) = n)
def orU (n : Int) (ds : List Int) : List Int := if ordIn n ds then ordL n.toNat ds else []
def orE (n : Int) (ds : List Int) : Int := if ordIn n ds then 0 else 1
theorem ordIn_yes {n : Int} {ds : List Int} (h : ordIn n ds = true) : ∃ m : Nat, n = m ∧ m ≤ 6 ∧ ds.length = m := by
  simp only [ordIn, Bool.and_eq_true, decide_eq_true_eq] at h
  obtain ⟨m, rfl⟩ := Int.eq_ofNat_of_zero_le h.1.1
  exact ⟨m, rfl, by omega, by omega⟩
theorem ordIn_no {n : Int} {ds : List Int} (h : ordIn n ds = false) : n < 0 ∨ 6 < n ∨ (ds.length : Int) ≠ n := by
  simp only [ordIn, Bool.and_eq_false_iff, decide_eq_false_iff_not] at h
  omega
theorem ordL_length {m : Nat} {ds : List Int} (h : ds.length = m) : (ordL m ds).length = m := by
  have := (orders_perm (ordL_mem h)).length_eq
  rw [this, rangeI_len]
abbrev OrU (k : Nat) : Prop := ∀ (n : Int) (ds : List Int), ds.length < 9223372036854775807 → VC P k [.int .i64 n, sI ds] [] (fun r ob' => r = .tup [.sl 0 (orU n ds).length 1 0 (orU n ds).length, .int .i64 (orE n ds)] ∧ ob' = [rowO (orU n ds)])
theorem rorder_bad (n : Int) (ds : List Int) (hd : ds.length < 9223372036854775807) (h : n < 0 ∨ 6 < n ∨ (ds.length : Int) ≠ n) : VC P 26 [.int .i64 n, sI ds] [] (fun r ob' => r = .tup [.nils, .int .i64 1] ∧ ob' = []) := by
  refine VC_of_vwp_k ent_26 Try.func26 rfl (by simp) fun R hR => ?_
  refine vwp_sq [0, 1] fun K1 hK1 => vwp_region hT ?_
  simp
  refine hK1 _ ?_
  try clear hK1 K1
  refine vwp_seq_k fun K2 hK2 => ?_
  refine vwp_seq_k fun K3 hK3 => ?_
  have hc : n < 0 ∨ (0 ≤ n ∧ 6 < n) ∨ (0 ≤ n ∧ n ≤ 6 ∧ (ds.length : Int) ≠ n) := by omega
  rcases hc with hn | ⟨hn, hn6⟩ | ⟨hn, hn6, hne⟩
  · refine vwp_live [0, 1] (vwp_regionI hT ?_)
    simp [hn]
    refine hK3 _ ?_
    try clear hK3 K3
    refine vwp_cond (by first | rfl | (simp; rfl)) (fun h1 => ?_) fun h1 => ?_
    · simp -failIfUnchanged at h1; all_goals
     refine vwp_sq [] fun K4 hK4 => vwp_region hT ?_
     simp
     refine hK4 _ ?_
     try clear hK4 K4
     refine vwp_ret (hR _ _ ?_)
     exact ret_k [4, 5] [] ([]) (.tup [.nils, .int .i64 1]) (⟨rfl, rfl⟩)
    · simp -failIfUnchanged at h1; all_goals
     refine vwp_skip ?_
     refine hK2 _ ?_
     try clear hK2 K2
     refine vwp_seq_k fun K5 hK5 => ?_
     skip
  · have k1 : ¬ n < 0 := by omega
    refine vwp_live [0, 1] (vwp_regionI hT ?_)
    simp [k1, hn6]
    refine hK3 _ ?_
    try clear hK3 K3
    refine vwp_cond (by first | rfl | (simp; rfl)) (fun h2 => ?_) fun h2 => ?_
    · simp -failIfUnchanged at h2; all_goals
     refine vwp_sq [] fun K6 hK6 => vwp_region hT ?_
     simp
     refine hK6 _ ?_
     try clear hK6 K6
     refine vwp_ret (hR _ _ ?_)
     exact ret_k [4, 5] [] ([]) (.tup [.nils, .int .i64 1]) (⟨rfl, rfl⟩)
    · simp -failIfUnchanged at h2; all_goals
     refine vwp_skip ?_
     refine hK2 _ ?_
     try clear hK2 K2
     refine vwp_seq_k fun K7 hK7 => ?_
     skip
  · have k1 : ¬ n < 0 := by omega
    have k2 : ¬ 6 < n := by omega
    refine vwp_live [0, 1] (vwp_regionI hT ?_)
    simp [k1, k2, hne]
    refine hK3 _ ?_
    try clear hK3 K3
    refine vwp_cond (by first | rfl | (simp; rfl)) (fun h3 => ?_) fun h3 => ?_
    · simp -failIfUnchanged at h3; all_goals
     refine vwp_sq [] fun K8 hK8 => vwp_region hT ?_
     simp
     refine hK8 _ ?_
     try clear hK8 K8
     refine vwp_ret (hR _ _ ?_)
     exact ret_k [4, 5] [] ([]) (.tup [.nils, .int .i64 1]) (⟨rfl, rfl⟩)
    · simp -failIfUnchanged at h3; all_goals
     refine vwp_skip ?_
     refine hK2 _ ?_
     try clear hK2 K2
     refine vwp_seq_k fun K9 hK9 => ?_
     exact absurd (by assumption) hne

theorem order_of {k : Nat} (h1 : ∀ (m : Nat) (ds : List Int), m ≤ 6 → ds.length = m → VC P k [.int .i64 m, sI ds] [] (fun r ob' => r = .tup [.sl 0 m 1 0 m, .int .i64 0] ∧ ob' = [.live ((ordL m ds).map (.int .i64))]))
    (h2 : ∀ (n : Int) (ds : List Int), ds.length < 9223372036854775807 → (n < 0 ∨ 6 < n ∨ (ds.length : Int) ≠ n) → VC P k [.int .i64 n, sI ds] [] (fun r ob' => r = .tup [.nils, .int .i64 1] ∧ ob' = [])) : OrU k := fun n ds hd => by
  unfold orU orE
  cases h : ordIn n ds with
  | false => exact (h2 n ds hd (ordIn_no h)).virt fun r ob' q => .inr (.inr ⟨_, q.1, by rw [q.2]; exact ⟨rfl, rfl⟩⟩)
  | true =>
    obtain ⟨m, rfl, h6, hm⟩ := ordIn_yes h
    exact (h1 m ds h6 hm).mono fun r ob' q => by simpa [ordL_length hm] using q
theorem order_u : OrU 25 := order_of order_spec order_bad
theorem rorder_u : OrU 26 := order_of rorder_spec rorder_bad
def osU (n : Int) : List (List Int) := if 0 ≤ n ∧ n ≤ 6 then ordersL n.toNat else []
abbrev OsU (k : Nat) : Prop := ∀ (n : Int), VC P k [.int .i64 n] [] (fun r ob' => r = .sl 0 (osU n).length 1 0 (osU n).length ∧ ob' = [.live ((osU n).map sI)])
theorem orders_u : OsU 28 := fun n => by
  unfold osU
  by_cases h : 0 ≤ n ∧ n ≤ 6
  · obtain ⟨m, rfl⟩ := Int.eq_ofNat_of_zero_le h.1
    rw [if_pos h]
    exact orders_spec m (by omega)
  · rw [if_neg h]
    exact (orders_bad n h).virt fun r ob' q => .inr (.inl ⟨q.1, by rw [q.2]; exact ⟨rfl, rfl⟩⟩)
theorem rorders_u : OsU 29 := fun n => by
  unfold osU
  by_cases h : 0 ≤ n ∧ n ≤ 6
  · obtain ⟨m, rfl⟩ := Int.eq_ofNat_of_zero_le h.1
    rw [if_pos h]
    have := rorders_spec m (by omega)
    rw [refL_orders (by omega)] at this
    exact this
  · rw [if_neg h]
    exact (rorders_bad n h)
theorem osU_small (n : Int) : (osU n).length < 1099511627776 ∧ ∀ l ∈ osU n, l.length < 1099511627776 := by
  unfold osU
  split
  · have := orders_small (m := n.toNat) (by omega)
    exact ⟨this.1, this.2.1⟩
  · simp
theorem exU_len (n : Int) (g : List Int) : (exU n g).length ≤ 6 := by
  unfold exU
  split
  · rename_i h
    obtain ⟨m, rfl, h6, _⟩ := mayB_m h
    simpa [exactL] using h6
  · simp
theorem saU_len (n : Int) (g : List Int) (os : List (List Int)) : (saU n g os).length ≤ 6 := by
  unfold saU
  split
  · rename_i h
    obtain ⟨m, rfl, h6, _⟩ := mayB_m (sampE_may h)
    simpa [sampL_length] using h6
  · simp
theorem orU_len (n : Int) (ds : List Int) : (orU n ds).length ≤ 6 := by
  unfold orU
  split
  · rename_i h
    obtain ⟨m, rfl, h6, hm⟩ := ordIn_yes h
    simpa [ordL_length hm] using h6
  · simp
theorem shapleyTells_spec (n : Int) (g : List Int) (os : List (List Int)) (ds : List Int) (hg : g.length ≤ 140737488355328) (ho : os.length ≤ 140737488355328) (hos : ∀ l ∈ os, l.length ≤ 140737488355328) (hd : ds.length ≤ 140737488355328) : VC P 6 [.int .i64 n, sI g, sLL os, sI ds] [] (fun r ob' => r = .bool true) := by
  refine VC_of_vwp_k ent_6 Try.func6 rfl (by simp) fun R hR => ?_
  refine vwp_sq [0, 1, 2, 3] fun K1 hK1 => vwp_region hT ?_
  simp
  refine hK1 _ ?_
  try clear hK1 K1
  refine vwp_seq_k fun K2 hK2 => ?_
  refine vwp_sq [0, 1, 2, 3] fun K3 hK3 => vwp_region hT ?_
  simp
  refine vcall_k [] (awake_spec) ?_
  rintro r ob' ⟨rfl, rfl⟩
  simp
  refine hK3 _ ?_
  try clear hK3 K3
  refine vwp_cond (by first | rfl | (simp; rfl)) (fun h1 => ?_) fun h1 => ?_
  · simp -failIfUnchanged at h1; all_goals
   refine vwp_seq_k fun K4 hK4 => ?_
   simp at *
  · simp -failIfUnchanged at h1; all_goals
   refine vwp_skip ?_
   refine hK2 _ ?_
   try clear hK2 K2
   refine vwp_seq_k fun K5 hK5 => ?_
   refine vwp_sq [0, 1, 2, 3] fun K6 hK6 => vwp_region hT ?_
   simp
   refine vcall_k [] (large_spec g os hg ho hos) ?_
   rintro r ob' ⟨b, rfl, rfl, hb⟩
   simp
   refine hK6 _ ?_
   try clear hK6 K6
   refine vwp_cond (by first | rfl | (simp; rfl)) (fun h2 => ?_) fun h2 => ?_
   · simp -failIfUnchanged at h2; all_goals
    refine vwp_sq [] fun K7 hK7 => vwp_region hT ?_
    simp
    refine hK7 _ ?_
    try clear hK7 K7
    refine vwp_ret (hR _ _ ?_)
    exact ret_k [8] [] ([]) (.bool true) (rfl)
   · simp -failIfUnchanged at h2; all_goals
    have hq := h2
    obtain ⟨hg2, ho2, hos2⟩ := hb (by simpa using hq.1)
    have hex := exU_len n g
    have hsa := saU_len n g os
    have hor := orU_len n ds
    have hosu := osU_small n
    have hos3 : ∀ l ∈ os, l.length < 1099511627776 := fun l hl => by have := hos2 l hl; omega
    refine vwp_skip ?_
    refine hK5 _ ?_
    try clear hK5 K5
    refine vwp_sq [0, 1, 2, 3] fun K8 hK8 => vwp_region hT ?_
    simp
    refine vcall_k [] (exact_u n g (by omega)) ?_
    rintro r ob' ⟨rfl, rfl⟩
    simp
    refine hK8 _ ?_
    try clear hK8 K8
    refine vwp_sq [0, 1, 2, 3, 9, 10, 11] fun K9 hK9 => vwp_region hT ?_
    simp
    refine vcall_k [] (rexact_u n g (by omega)) ?_
    rintro r ob' ⟨rfl, rfl⟩
    simp
    refine hK9 _ ?_
    try clear hK9 K9
    refine vwp_sq [0, 1, 2, 3, 9, 10, 11, 12, 13, 14] fun K10 hK10 => vwp_region hT ?_
    simp
    refine vcall_k [] (samp_u n g os (by omega) (by omega) hos3) ?_
    rintro r ob' ⟨rfl, rfl⟩
    simp
    refine hK10 _ ?_
    try clear hK10 K10
    refine vwp_sq [0, 1, 2, 3, 9, 10, 11, 12, 13, 14, 15, 16, 17] fun K11 hK11 => vwp_region hT ?_
    simp
    refine vcall_k [] (rsamp_u n g os (by omega) (by omega) hos3) ?_
    rintro r ob' ⟨rfl, rfl⟩
    simp
    refine hK11 _ ?_
    try clear hK11 K11
    refine vwp_sq [0, 3, 9, 10, 11, 12, 13, 14, 15, 16, 17, 18, 19, 20] fun K12 hK12 => vwp_region hT ?_
    simp
    refine vcall_k [] (order_u n ds (by omega)) ?_
    rintro r ob' ⟨rfl, rfl⟩
    simp
    refine hK12 _ ?_
    try clear hK12 K12
    refine vwp_sq [0, 3, 9, 10, 11, 12, 13, 14, 15, 16, 17, 18, 19, 20, 21, 22] fun K13 hK13 => vwp_region hT ?_
    simp
    refine vcall_k [] (rorder_u n ds (by omega)) ?_
    rintro r ob' ⟨rfl, rfl⟩
    simp
    refine hK13 _ ?_
    try clear hK13 K13
    refine vwp_sq [0, 9, 10, 11, 12, 13, 14, 15, 16, 17, 18, 19, 20, 21, 22, 23, 24] fun K14 hK14 => vwp_region hT ?_
    simp
    refine vcall_z [] (ints_spec (exU n g) (exU n g) (by omega) (by omega)) (by rintro r ob' ⟨rfl, rfl⟩; simp) ?_
    rintro r ob' ⟨rfl, rfl⟩
    simp
    refine vcall_z [] (ints_spec (saU n g os) (saU n g os) (by omega) (by omega)) (by rintro r ob' ⟨rfl, rfl⟩; simp) ?_
    rintro r ob' ⟨rfl, rfl⟩
    simp
    refine vcall_k [] (orders_u n) ?_
    rintro r ob' ⟨rfl, rfl⟩
    simp
    refine vcall_k [] (rorders_u n) ?_
    rintro r ob' ⟨rfl, rfl⟩
    simp
    refine vcall_z [] (same2_spec (osU n) (osU n) hosu.1 hosu.1 hosu.2 hosu.2) (by rintro r ob' ⟨rfl, rfl⟩; simp) ?_
    rintro r ob' ⟨rfl, rfl⟩
    simp
    refine vcall_z [] (same1_spec (orU n ds) (orU n ds) (by omega) (by omega)) (by rintro r ob' ⟨rfl, rfl⟩; simp) ?_
    rintro r ob' ⟨rfl, rfl⟩
    simp
    refine hK14 _ ?_
    try clear hK14 K14
    refine vwp_ret (hR _ _ ?_)
    exact ret_k [8] [] ([]) (.bool true) (rfl)
end Go.Proofs.Ythjpaongoflgiaa
