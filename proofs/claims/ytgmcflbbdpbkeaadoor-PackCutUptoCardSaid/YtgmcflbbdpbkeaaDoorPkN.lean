/- The document's small ones: copies, comparisons, is it large? -/
import Derived.Test.YtgmcflbbdpbkeaaDoorPkM
namespace Go.Proofs.YtgmcflbbdpbkeaaDoor
open Go Go.VX Go.RowKit
set_option linter.unusedVariables false
set_option linter.unusedSimpArgs false
set_option maxHeartbeats 20000000
set_option maxRecDepth 100000

theorem pv_eq {x y : PV} (h1 : x.n = y.n) (h2 : x.t = y.t) : x = y := by cases x; cases y; cases h1; cases h2; rfl
theorem take_succ_eq {α : Type} {a b : List α} {i : Nat} {x y : α} (hx : a[i]? = some x) (hy : b[i]? = some y) (h : a.take i = b.take i) (hxy : x = y) : a.take (i + 1) = b.take (i + 1) := by
  rw [List.take_add_one, List.take_add_one, h, hx, hy, hxy]
theorem sameV_spec (a b : List PV) (ha : a.length < 1099511627776) (hb : b.length < 1099511627776) : VC P 17 [sV a, sV b] [] (fun r ob' => ∃ c, r = .bool c ∧ (c = true ↔ a = b) ∧ ob' = []) := by
  refine VC_of_vwp_k ent_17 Tryd.func17 rfl (by simp) fun R hR => ?_
  refine vwp_sq [0, 1] fun K1 hK1 => vwp_region hT ?_
  simp
  refine hK1 _ ?_
  try clear hK1 K1
  refine vwp_seq_k fun K2 hK2 => ?_
  refine vwp_sq [0, 1] fun K3 hK3 => vwp_region hT ?_
  simp
  refine hK3 _ ?_
  try clear hK3 K3
  refine vwp_cond (by first | rfl | (simp; rfl)) (fun h1 => ?_) fun h1 => ?_
  · simp -failIfUnchanged at h1; all_goals
   have q := h1
   refine vwp_sq [] fun K4 hK4 => vwp_region hT ?_
   simp
   refine hK4 _ ?_
   try clear hK4 K4
   refine vwp_ret (hR _ _ ?_)
   exact ret_k [4] [] ([]) (.bool false) (⟨false, rfl, ⟨fun h => (by cases h), fun h => (by subst h; simp at q)⟩, rfl⟩)
  · simp -failIfUnchanged at h1; all_goals
   have q := h1
   have hlen : a.length = b.length := by omega
   refine vwp_skip ?_
   refine hK2 _ ?_
   try clear hK2 K2
   refine vwp_seq_k fun K5 hK5 => ?_
   refine vwp_sq [0, 1] fun K6 hK6 => vwp_region hT ?_
   simp
   refine hK6 _ ?_
   try clear hK6 K6
   refine vwp_block ?_
   refine vwp_loop_s (fun i : Nat => ⟨[(0, sV a), (1, sV b), (5, .int .i64 (i : Int))], []⟩) (fun i => i ≤ a.length ∧ a.take i = b.take i) (fun i => a.length - i) (0) (Gh.to_k [0, 1, 5] []) (⟨Nat.zero_le _, by simp⟩) ?_
   rintro i ⟨hi, hab⟩
   intro K7 hK7
   refine vwp_seq_k fun K8 hK8 => ?_
   refine vwp_sq [0, 1, 5] fun K9 hK9 => vwp_region hT ?_
   simp
   refine hK9 _ ?_
   try clear hK9 K9
   refine vwp_cond (by first | rfl | (simp; rfl)) (fun h2 => ?_) fun h2 => ?_
   · simp -failIfUnchanged at h2; all_goals
    refine vwp_skip ?_
    refine hK8 _ ?_
    try clear hK8 K8
    refine vwp_seq_k fun K10 hK10 => ?_
    refine vwp_block ?_
    obtain ⟨x, hx⟩ := getI (l := a) (i := i) (by omega)
    obtain ⟨y, hy⟩ := getI (l := b) (i := i) (by omega)
    have vx := vcs_at hx
    have vy := vcs_at hy
    refine vwp_sq [0, 1, 5] fun K11 hK11 => vwp_still hT hm (by kernel_rfl) ?_
    simp [vx, vy]
    repeat refine ⟨by first | assumption | omega | (intros; omega), ?_⟩
    refine hK11 _ ?_
    try clear hK11 K11
    refine vwp_cond (by first | rfl | (simp; rfl)) (fun h3 => ?_) fun h3 => ?_
    · simp -failIfUnchanged at h3; all_goals
     have q := h3
     have hxy : ¬ x = y := (by rintro rfl; simp at q)
     refine vwp_sq [] fun K12 hK12 => vwp_region hT ?_
     simp
     refine hK12 _ ?_
     try clear hK12 K12
     refine vwp_ret (hR _ _ ?_)
     exact ret_k [4] [] ([]) (.bool false) (⟨false, rfl, ⟨fun h => (by cases h), fun h => (by subst h; rw [hx] at hy; exact absurd (Option.some.inj hy) hxy)⟩, rfl⟩)
    · simp -failIfUnchanged at h3; all_goals
     have q := h3
     have hxy : x = y := pv_eq q.1 q.2
     refine vwp_skip ?_
     refine hK10 _ ?_
     try clear hK10 K10
     have w1 : IntKind.i64.wrap ((i : Int) + 1) = i + 1 := w64 (by omega) (by omega)
     refine vwp_live [0, 1, 5] (vwp_region hT ?_)
     simp [w1]
     exact hK7 (i + 1) _ (Gh.to_k [0, 1, 5] []) (⟨by omega, take_succ_eq hx hy hab hxy⟩) (by omega)
   · simp -failIfUnchanged at h2; all_goals
    refine vwp_exit ?_
    simp only [inBlk, thenQ, if_true]
    refine hK5 _ ?_
    try clear hK5 K5
    refine vwp_sq [] fun K13 hK13 => vwp_region hT ?_
    simp
    refine hK13 _ ?_
    try clear hK13 K13
    refine vwp_ret (hR _ _ ?_)
    have e : i = a.length := by omega
    exact ret_k [4] [] ([]) (.bool true) (⟨true, rfl, ⟨fun _ => (by rw [e, List.take_length, hlen, List.take_length] at hab; exact hab), fun _ => rfl⟩, rfl⟩)
theorem sameB_spec (a b : List Int) (ha : a.length < 1099511627776) (hb : b.length < 1099511627776) : VC P 24 [sB a, sB b] [] (fun r ob' => ∃ c, r = .bool c ∧ (c = true ↔ a = b) ∧ ob' = []) := by
  refine VC_of_vwp_k ent_24 Tryd.func24 rfl (by simp) fun R hR => ?_
  refine vwp_sq [0, 1] fun K1 hK1 => vwp_region hT ?_
  simp
  refine hK1 _ ?_
  try clear hK1 K1
  refine vwp_seq_k fun K2 hK2 => ?_
  refine vwp_sq [0, 1] fun K3 hK3 => vwp_region hT ?_
  simp
  refine hK3 _ ?_
  try clear hK3 K3
  refine vwp_cond (by first | rfl | (simp; rfl)) (fun h1 => ?_) fun h1 => ?_
  · simp -failIfUnchanged at h1; all_goals
   have q := h1
   refine vwp_sq [] fun K4 hK4 => vwp_region hT ?_
   simp
   refine hK4 _ ?_
   try clear hK4 K4
   refine vwp_ret (hR _ _ ?_)
   exact ret_k [4] [] ([]) (.bool false) (⟨false, rfl, ⟨fun h => (by cases h), fun h => (by subst h; simp at q)⟩, rfl⟩)
  · simp -failIfUnchanged at h1; all_goals
   have q := h1
   have hlen : a.length = b.length := by omega
   refine vwp_skip ?_
   refine hK2 _ ?_
   try clear hK2 K2
   refine vwp_seq_k fun K5 hK5 => ?_
   refine vwp_sq [0, 1] fun K6 hK6 => vwp_region hT ?_
   simp
   refine hK6 _ ?_
   try clear hK6 K6
   refine vwp_block ?_
   refine vwp_loop_s (fun i : Nat => ⟨[(0, sB a), (1, sB b), (5, .int .i64 (i : Int))], []⟩) (fun i => i ≤ a.length ∧ a.take i = b.take i) (fun i => a.length - i) (0) (Gh.to_k [0, 1, 5] []) (⟨Nat.zero_le _, by simp⟩) ?_
   rintro i ⟨hi, hab⟩
   intro K7 hK7
   refine vwp_seq_k fun K8 hK8 => ?_
   refine vwp_sq [0, 1, 5] fun K9 hK9 => vwp_region hT ?_
   simp
   refine hK9 _ ?_
   try clear hK9 K9
   refine vwp_cond (by first | rfl | (simp; rfl)) (fun h2 => ?_) fun h2 => ?_
   · simp -failIfUnchanged at h2; all_goals
    refine vwp_skip ?_
    refine hK8 _ ?_
    try clear hK8 K8
    refine vwp_seq_k fun K10 hK10 => ?_
    refine vwp_block ?_
    obtain ⟨x, hx⟩ := getI (l := a) (i := i) (by omega)
    obtain ⟨y, hy⟩ := getI (l := b) (i := i) (by omega)
    refine vwp_sq [0, 1, 5] fun K11 hK11 => vwp_still hT hm (by kernel_rfl) ?_
    simp [hx, hy]
    repeat refine ⟨by first | assumption | omega | (intros; omega), ?_⟩
    refine hK11 _ ?_
    try clear hK11 K11
    refine vwp_cond (by first | rfl | (simp; rfl)) (fun h3 => ?_) fun h3 => ?_
    · simp -failIfUnchanged at h3; all_goals
     have q := h3
     have hxy : ¬ x = y := (by simpa using q)
     refine vwp_sq [] fun K12 hK12 => vwp_region hT ?_
     simp
     refine hK12 _ ?_
     try clear hK12 K12
     refine vwp_ret (hR _ _ ?_)
     exact ret_k [4] [] ([]) (.bool false) (⟨false, rfl, ⟨fun h => (by cases h), fun h => (by subst h; rw [hx] at hy; exact absurd (Option.some.inj hy) hxy)⟩, rfl⟩)
    · simp -failIfUnchanged at h3; all_goals
     have q := h3
     have hxy : x = y := (by simpa using q)
     refine vwp_skip ?_
     refine hK10 _ ?_
     try clear hK10 K10
     have w1 : IntKind.i64.wrap ((i : Int) + 1) = i + 1 := w64 (by omega) (by omega)
     refine vwp_live [0, 1, 5] (vwp_region hT ?_)
     simp [w1]
     exact hK7 (i + 1) _ (Gh.to_k [0, 1, 5] []) (⟨by omega, take_succ_eq hx hy hab hxy⟩) (by omega)
   · simp -failIfUnchanged at h2; all_goals
    refine vwp_exit ?_
    simp only [inBlk, thenQ, if_true]
    refine hK5 _ ?_
    try clear hK5 K5
    refine vwp_sq [] fun K13 hK13 => vwp_region hT ?_
    simp
    refine hK13 _ ?_
    try clear hK13 K13
    refine vwp_ret (hR _ _ ?_)
    have e : i = a.length := by omega
    exact ret_k [4] [] ([]) (.bool true) (⟨true, rfl, ⟨fun _ => (by rw [e, List.take_length, hlen, List.take_length] at hab; exact hab), fun _ => rfl⟩, rfl⟩)
theorem bytes_spec (a b : List Int) (ha : a.length < 1099511627776) (hb : b.length < 1099511627776) : VC P 12 [sB a, sB b] [] (fun r ob' => ∃ c, r = .bool c ∧ (c = true ↔ a = b) ∧ ob' = []) := by
  refine VC_of_vwp_k ent_12 Tryd.func12 rfl (by simp) fun R hR => ?_
  refine vwp_sq [0, 1] fun K1 hK1 => vwp_region hT ?_
  simp
  refine hK1 _ ?_
  try clear hK1 K1
  refine vwp_sq [0, 1] fun K2 hK2 => vwp_region hT ?_
  simp
  refine vcall_k [] (sameB_spec a b ha hb) ?_
  rintro r ob' ⟨c, rfl, hc, rfl⟩
  simp
  refine hK2 _ ?_
  try clear hK2 K2
  refine vwp_ret (hR _ _ ?_)
  exact ret_k [4] [] ([]) (.bool c) (⟨c, rfl, hc, rfl⟩)
theorem own_spec (l : List PV) (hl : l.length < 1099511627776) : VC P 11 [sV l] [] (fun r ob' => r = .sl 0 (2 * l.length) 2 0 l.length ∧ ob' = [.live (vcs l)]) := by
  refine VC_of_vwp_k ent_11 Tryd.func11 rfl (by simp) fun R hR => ?_
  refine vwp_sq [0] fun K1 hK1 => vwp_region hT ?_
  simp
  refine hK1 _ ?_
  try clear hK1 K1
  have hz0 : zerosV [.int .i64 0, .str ⟨#[]⟩] 0 = [] := rfl
  refine vwp_sq [0] fun K2 hK2 => vwp_region hT ?_
  simp [hz0]
  refine hK2 _ ?_
  try clear hK2 K2
  refine vwp_seq_k fun K3 hK3 => ?_
  refine vwp_sq [0, 3] fun K4 hK4 => vwp_region hT ?_
  simp
  refine hK4 _ ?_
  try clear hK4 K4
  refine vwp_block ?_
  refine vwp_loop_s (fun i : Nat => ⟨[(3, .sl 0 (2 * i) 2 0 i), (7, sV l), (8, .int .i64 (l.length : Int)), (9, .int .i64 (i : Int))], [.live (vcs (l.take i))]⟩) (fun i => i ≤ l.length) (fun i => l.length - i) (0) (Gh.to_k [3, 7, 8, 9] [0]) (Nat.zero_le _) ?_
  rintro i hi
  intro K5 hK5
  refine vwp_sq [3, 7, 8, 9] fun K6 hK6 => vwp_region hT ?_
  simp
  refine hK6 _ ?_
  try clear hK6 K6
  refine vwp_seq_k fun K7 hK7 => ?_
  refine vwp_cond (by first | rfl | (simp; rfl)) (fun h1 => ?_) fun h1 => ?_
  · simp -failIfUnchanged at h1; all_goals
   refine vwp_skip ?_
   refine hK7 _ ?_
   try clear hK7 K7
   refine vwp_seq_k fun K8 hK8 => ?_
   refine vwp_block ?_
   obtain ⟨x, hx⟩ := getI (l := l) (i := i) (by omega)
   have vx := vcs_at hx
   have htk : List.take (i + 1) l = List.take i l ++ [x] := by rw [List.take_add_one, hx]; rfl
   have hcap : ¬ (i * 2 < 2 * i) := by omega
   have hmin : min i l.length = i := by omega
   have hz : zerosV [.int .i64 0, .str ⟨#[]⟩] 1 = [.int .i64 0, .str ⟨#[]⟩] := rfl
   refine vwp_sq [3, 7, 8, 9] fun K9 hK9 => vwp_region hT ?_
   simp [vx]
   repeat refine ⟨by first | assumption | omega | (intros; omega), ?_⟩
   refine hK9 _ ?_
   try clear hK9 K9
   refine vwp_live [3, 5, 7, 8, 9] (vwp_region hT ?_)
   simp [hcap, hmin, hz]
   repeat refine ⟨by first | assumption | omega | (intros; omega), ?_⟩
   refine hK8 _ ?_
   try clear hK8 K8
   have w1 : IntKind.i64.wrap ((i : Int) + 1) = i + 1 := w64 (by omega) (by omega)
   refine vwp_live [3, 7, 8, 9] (vwp_region hT ?_)
   simp [w1]
   exact hK5 (i + 1) _ (Gh.to_k [3, 7, 8, 9] [0] (he := by simp [Nat.mul_add, Nat.mul_comm]) (hh := by simp [htk, vcs_app, vcs_cons])) (by omega) (by omega)
  · simp -failIfUnchanged at h1; all_goals
   refine vwp_exit ?_
   simp only [inBlk, thenQ, if_true]
   refine hK3 _ ?_
   try clear hK3 K3
   refine vwp_sq [3] fun K10 hK10 => vwp_region hT ?_
   simp
   refine hK10 _ ?_
   try clear hK10 K10
   refine vwp_ret (hR _ _ ?_)
   obtain rfl : i = l.length := by omega
   rw [List.take_length]
   exact ret_k [2] [0] ([.live (vcs l)]) (.sl 0 (2 * l.length) 2 0 l.length) (⟨rfl, rfl⟩)

theorem vcs_at1 {l : List PV} {i : Nat} {x : PV} (h : l[i]? = some x) : (vcs l)[i * 2 + 1]? = some (.str x.t) := by
  induction l generalizing i with
  | nil => simp at h
  | cons y l ih =>
    cases i with
    | zero => simp at h; subst h; rfl
    | succ i =>
      have e : (i + 1) * 2 + 1 = i * 2 + 1 + 2 := by omega
      rw [e, vcs_cons, List.getElem?_cons_succ, List.getElem?_cons_succ]
      exact ih (by simpa using h)
def sumT (l : List PV) : Nat := (l.map fun x => x.t.size).sum
/-- What counts as large. -/
def largeP (f : ByteArray) (l : List PV) (n : Nat) : Bool := decide (300 < l.length) || (decide (21000 < n) || decide (40 < f.size))
theorem sumT_take {l : List PV} {i : Nat} {x : PV} (h : l[i]? = some x) : sumT (l.take (i + 1)) = sumT (l.take i) + x.t.size := by
  rw [List.take_add_one, h]; simp [sumT]
theorem large_spec (f : ByteArray) (hf : f.size ≤ 140737488355328) (l : List PV) (hl : l.length ≤ 140737488355328) (ht : ∀ x ∈ l, x.t.size ≤ 140737488355328) : VC P 8 [.str f, sV l] [] (fun r ob' => ∃ c, r = .bool c ∧ ob' = [] ∧ (c = false → l.length ≤ 300 ∧ sumT l ≤ 21000 ∧ f.size ≤ 40)) := by
  refine VC_of_vwp_k ent_8 Tryd.func8 rfl (by simp) fun R hR => ?_
  refine vwp_sq [0, 1] fun K1 hK1 => vwp_region hT ?_
  simp
  refine hK1 _ ?_
  try clear hK1 K1
  refine vwp_sq [0, 1] fun K2 hK2 => vwp_region hT ?_
  simp
  refine hK2 _ ?_
  try clear hK2 K2
  refine vwp_seq_k fun K3 hK3 => ?_
  refine vwp_sq [0, 1, 5] fun K4 hK4 => vwp_region hT ?_
  simp
  refine hK4 _ ?_
  try clear hK4 K4
  refine vwp_block ?_
  refine vwp_loop_s (fun i : Nat => ⟨[(0, .str f), (1, sV l), (5, .int .i64 (sumT (l.take i) : Int)), (6, .int .i64 (i : Int))], []⟩) (fun i => i ≤ l.length ∧ sumT (l.take i) ≤ 140737488376328) (fun i => l.length - i) (0) (Gh.to_k [0, 1, 5, 6] [] (he := by simp [sumT])) (⟨Nat.zero_le _, by simp [sumT]⟩) ?_
  rintro i ⟨hi, hsm⟩
  intro K5 hK5
  refine vwp_seq_k fun K6 hK6 => ?_
  refine vwp_sq [0, 1, 5, 6] fun K7 hK7 => vwp_region hT ?_
  simp
  refine hK7 _ ?_
  try clear hK7 K7
  refine vwp_cond (by first | rfl | (simp; rfl)) (fun h1 => ?_) fun h1 => ?_
  · simp -failIfUnchanged at h1; all_goals
   have q := h1
   obtain ⟨x, hx⟩ := getI (l := l) (i := i) (by omega)
   have vx := vcs_at1 hx
   have hst := sumT_take hx
   have htx := ht x (List.mem_of_getElem? hx)
   refine vwp_skip ?_
   refine hK6 _ ?_
   try clear hK6 K6
   refine vwp_seq_k fun K8 hK8 => ?_
   refine vwp_block ?_
   have w2 : IntKind.i64.wrap ((sumT (l.take i) : Int) + (x.t.size : Int)) = (sumT (l.take (i + 1)) : Int) := (w64 (by omega) (by omega)).trans (by omega)
   refine vwp_live [0, 1, 5, 6] (vwp_region hT ?_)
   simp [vx, w2]
   repeat refine ⟨by first | assumption | omega | (intros; omega), ?_⟩
   refine hK8 _ ?_
   try clear hK8 K8
   have w1 : IntKind.i64.wrap ((i : Int) + 1) = i + 1 := w64 (by omega) (by omega)
   refine vwp_live [0, 1, 5, 6] (vwp_region hT ?_)
   simp [w1]
   exact hK5 (i + 1) _ (Gh.to_k [0, 1, 5, 6] []) (⟨by omega, by omega⟩) (by omega)
  · simp -failIfUnchanged at h1; all_goals
   have q := h1
   have hq : l.length ≤ i ∨ 21000 < sumT (l.take i) := by omega
   refine vwp_exit ?_
   simp only [inBlk, thenQ, if_true]
   refine hK3 _ ?_
   try clear hK3 K3
   refine vwp_sq [0, 1, 5] fun K9 hK9 => vwp_region hT ?_
   simp
   refine hK9 _ ?_
   try clear hK9 K9
   refine vwp_ret (hR _ _ ?_)
   exact ret_k [4] [] ([]) (.bool (decide (300 < (l.length : Int)) || decide (21000 < (sumT (l.take i) : Int)) || decide (40 < (f.size : Int)))) (⟨_, rfl, rfl, fun h => by
       simp at h
       obtain ⟨⟨h1, h2⟩, h3⟩ := h
       have e : l.take i = l := List.take_of_length_le (by omega)
       rw [e] at h2
       exact ⟨by omega, by omega, by omega⟩⟩)
end Go.Proofs.YtgmcflbbdpbkeaaDoor
