/- Whom a plan serves, and whom not: the walk. -/
import Derived.Test.YtinigjmfjabicaaPlR
namespace Go.Proofs.Ytinigjmfjabicaa
open Go Go.VX Go.RowKit
set_option linter.unusedVariables false
set_option linter.unusedSimpArgs false
set_option maxHeartbeats 20000000
set_option maxRecDepth 100000

def catR (l : List Rt) : List Int := l.flatMap (·.st)
theorem catR_take {l : List Rt} {i : Nat} {s : Rt} (h : l[i]? = some s) : catR (l.take (i + 1)) = catR (l.take i) ++ s.st := by rw [take_snoc h]; simp [catR]
theorem catR_le (l : List Rt) (i : Nat) : (catR (l.take i)).length ≤ (catR l).length := by
  have : catR l = catR (l.take i) ++ catR (l.drop i) := by simp only [catR]; rw [← List.flatMap_append, List.take_append_drop]
  rw [this, List.length_append]; omega
def unsF (os : List Od) (C : List Int) : List Int := (os.map (·.id)).filter fun x => !hasB C x
def servP (p : Pn) : List Int := srt (catR p.rs)
def restP (w : Wd) (p : Pn) : List Int := srt (unsF w.os (catR p.rs))
theorem hasB_perm {a b : List Int} (h : a.Perm b) (x : Int) : hasB a x = hasB b x := by
  rw [Bool.eq_iff_iff, hasB_mem, hasB_mem]; exact h.mem_iff
theorem unsF_take {os : List Od} {C : List Int} {i : Nat} {o : Od} (h : os[i]? = some o) : unsF (os.take (i + 1)) C = unsF (os.take i) C ++ (if hasB C o.id = true then [] else [o.id]) := by
  rw [take_snoc h]; simp only [unsF, List.map_append, List.filter_append, List.map_cons, List.map_nil, List.filter_cons, List.filter_nil]
  cases hasB C o.id <;> rfl
theorem unsF_le (os : List Od) (C : List Int) : (unsF os C).length ≤ os.length := by
  unfold unsF; exact Nat.le_trans (List.length_filter_le _ _) (by simp)
theorem served_spec (p : Pn) (hp : p.rs.length < 1099511627776) (hc : (catR p.rs).length < 1099511627776) : VC P 26 [.agg p.c] [] (fun r ob' => r = .sl 0 (catR p.rs).length 1 0 (catR p.rs).length ∧ ob' = [.live (ints (servP p))]) := by
  refine VC_of_vwp_k ent_26 Try.func26 rfl (by simp) fun R hR => ?_
  refine vwp_sq [0] fun K1 hK1 => vwp_region hT ?_
  simp
  refine hK1 _ ?_
  try clear hK1 K1
  refine vwp_sq [1] fun K2 hK2 => vwp_region hT ?_
  simp
  refine hK2 _ ?_
  try clear hK2 K2
  refine vwp_seq_k fun K3 hK3 => ?_
  refine vwp_sq [1, 3] fun K4 hK4 => vwp_region hT ?_
  simp
  refine hK4 _ ?_
  try clear hK4 K4
  refine vwp_block ?_
  refine vwp_loop_s (fun i : Nat => ⟨[(3, .sl 1 (catR (p.rs.take i)).length 1 0 (catR (p.rs.take i)).length), (7, rtV p.rs), (8, .int .i64 p.rs.length), (9, .int .i64 (i : Int))], [.live p.c, .live (ints (catR (p.rs.take i)))]⟩) (fun i => i ≤ p.rs.length) (fun i => p.rs.length - i) (0) ((Gh.virt 3 1 (by simp)).trans (Gh.to_k [3, 7, 8, 9] [0, 1] (he := by simp [catR]) (hh := by simp [catR]))) (by omega) ?_
  rintro i hi
  have hle := catR_le p.rs i
  intro K5 hK5
  refine vwp_sq [3, 7, 8, 9] fun K6 hK6 => vwp_region hT ?_
  simp
  refine hK6 _ ?_
  try clear hK6 K6
  refine vwp_seq_k fun K7 hK7 => ?_
  refine vwp_cond (by first | rfl | (simp; rfl)) (fun h1 => ?_) fun h1 => ?_
  · simp -failIfUnchanged at h1; all_goals
   refine vwp_skip ?_
   refine hK7 _ ?_
   try clear hK7 K7
   refine vwp_seq_k fun K8 hK8 => ?_
   refine vwp_block ?_
   obtain ⟨s, hs⟩ := getI (l := p.rs) (i := i) (by omega)
   have hrow := rowRt hs
   have hlen := lenRt p.rs
   have hle2 := catR_le p.rs (i + 1)
   rw [catR_take hs, List.length_append] at hle2
   refine vwp_sq [3, 7, 8, 9] fun K9 hK9 => vwp_region hT ?_
   simp [hrow, hlen]
   repeat refine ⟨by first | assumption | omega | (intros; omega), ?_⟩
   refine hK9 _ ?_
   try clear hK9 K9
   refine vwp_live [3, 5, 7, 8, 9] (vwp_region hT ?_)
   simp
   repeat refine ⟨by first | assumption | omega | (intros; omega), ?_⟩
   refine hK8 _ ?_
   try clear hK8 K8
   have w1 : IntKind.i64.wrap ((i : Int) + 1) = i + 1 := w64 (by omega) (by omega)
   refine vwp_live [3, 7, 8, 9] (vwp_region hT ?_)
   simp [w1]
   exact hK5 (i + 1) _ (Gh.to_k [3, 7, 8, 9] [0, 1] (he := by simp [catR_take hs]) (hh := by simp [catR_take hs])) (by omega) (by omega)
  · simp -failIfUnchanged at h1; all_goals
   refine vwp_exit ?_
   simp only [inBlk, thenQ, if_true]
   refine hK3 _ ?_
   try clear hK3 K3
   obtain rfl : i = p.rs.length := by omega
   rw [List.take_length]
   have hsl := srt_len (catR p.rs)
   refine vwp_sq [3] fun K10 hK10 => vwp_region hT ?_
   simp
   refine vcall_k [1] (sort_spec (catR p.rs) hc) ?_
   rintro r ob' ⟨rfl, rfl⟩
   simp
   refine hK10 _ ?_
   try clear hK10 K10
   refine vwp_sq [3] fun K11 hK11 => vwp_region hT ?_
   simp
   refine hK11 _ ?_
   try clear hK11 K11
   refine vwp_ret (hR _ _ ?_)
   exact ret_k [2] [1] ([.live (ints (servP p))]) (.sl 0 (catR p.rs).length 1 0 (catR p.rs).length) (⟨rfl, rfl⟩) (hh := by simp [servP])
theorem dserved_spec (p : Pn) (hp : p.rs.length < 1099511627776) (hc : (catR p.rs).length < 1099511627776) : VC P 27 [.agg p.c] [] (fun r ob' => r = .sl 0 (catR p.rs).length 1 0 (catR p.rs).length ∧ ob' = [.live (ints (servP p))]) := by
  refine VC_of_vwp_k ent_27 Try.func27 rfl (by simp) fun R hR => ?_
  refine vwp_sq [0] fun K1 hK1 => vwp_region hT ?_
  simp
  refine hK1 _ ?_
  try clear hK1 K1
  refine vwp_sq [1] fun K2 hK2 => vwp_region hT ?_
  simp
  refine hK2 _ ?_
  try clear hK2 K2
  refine vwp_seq_k fun K3 hK3 => ?_
  refine vwp_sq [1, 3] fun K4 hK4 => vwp_region hT ?_
  simp
  refine hK4 _ ?_
  try clear hK4 K4
  refine vwp_block ?_
  refine vwp_loop_s (fun i : Nat => ⟨[(1, .ptr 0 2 0), (3, .sl 1 (catR (p.rs.take i)).length 1 0 (catR (p.rs.take i)).length), (4, .int .i64 (i : Int))], [.live p.c, .live (ints (catR (p.rs.take i)))]⟩) (fun i => i ≤ p.rs.length) (fun i => p.rs.length - i) (0) (Gh.to_k [1, 3, 4] [0, 1] (he := by simp [catR]) (hh := by simp [catR])) (by omega) ?_
  rintro i hi
  have hle := catR_le p.rs i
  intro K5 hK5
  refine vwp_seq_k fun K6 hK6 => ?_
  refine vwp_sq [1, 3, 4] fun K7 hK7 => vwp_region hT ?_
  simp
  refine hK7 _ ?_
  try clear hK7 K7
  refine vwp_cond (by first | rfl | (simp; rfl)) (fun h1 => ?_) fun h1 => ?_
  · simp -failIfUnchanged at h1; all_goals
   refine vwp_skip ?_
   refine hK6 _ ?_
   try clear hK6 K6
   refine vwp_seq_k fun K8 hK8 => ?_
   refine vwp_block ?_
   obtain ⟨s, hs⟩ := getI (l := p.rs) (i := i) (by omega)
   obtain ⟨_, hg1⟩ := getRt hs
   have hlen := lenRt p.rs
   have hle2 := catR_le p.rs (i + 1)
   rw [catR_take hs, List.length_append] at hle2
   have li : i * 2 + 1 < p.rs.length * 2 := by omega
   refine vwp_live [1, 3, 4] (vwp_region hT ?_)
   simp [hg1, hlen]
   repeat refine ⟨by first | assumption | omega | (intros; omega), ?_⟩
   refine hK8 _ ?_
   try clear hK8 K8
   have w1 : IntKind.i64.wrap ((i : Int) + 1) = i + 1 := w64 (by omega) (by omega)
   refine vwp_live [1, 3, 4] (vwp_region hT ?_)
   simp [w1]
   exact hK5 (i + 1) _ (Gh.to_k [1, 3, 4] [0, 1] (he := by simp [catR_take hs]) (hh := by simp [catR_take hs])) (by omega) (by omega)
  · simp -failIfUnchanged at h1; all_goals
   refine vwp_exit ?_
   simp only [inBlk, thenQ, if_true]
   refine hK3 _ ?_
   try clear hK3 K3
   obtain rfl : i = p.rs.length := by omega
   rw [List.take_length]
   have htk : List.take (catR p.rs).length (ints (catR p.rs)) = ints (catR p.rs) := List.take_of_length_le (by simp)
   refine vwp_sq [3] fun K9 hK9 => vwp_region hT ?_
   simp
   refine vcall_z [] (rsorted_spec (catR p.rs) hc) (by rintro r ob' ⟨rfl, rfl⟩; simp) ?_
   rintro r ob' ⟨rfl, rfl⟩
   simp
   refine hK9 _ ?_
   try clear hK9 K9
   refine vwp_ret (hR _ _ ?_)
   exact ret_k [2] [2] ([.live (ints (servP p))]) (.sl 0 (catR p.rs).length 1 0 (catR p.rs).length) (⟨rfl, rfl⟩) (hh := by simp [servP])

theorem restP_len (w : Wd) (p : Pn) : (restP w p).length = (unsF w.os (catR p.rs)).length := srt_len _
theorem servP_len (p : Pn) : (servP p).length = (catR p.rs).length := srt_len _
theorem servP_has (p : Pn) (x : Int) : hasB (servP p) x = hasB (catR p.rs) x := hasB_perm (srt_perm _) x
theorem rest_spec (w : Wd) (ho : w.os.length < 1099511627776) (p : Pn) (hp : p.rs.length < 1099511627776) (hc : (catR p.rs).length < 1099511627776) : VC P 28 [.agg w.c, .agg p.c] [] (fun r ob' => r = .sl 0 (restP w p).length 1 0 (restP w p).length ∧ ob' = [.live (ints (restP w p))]) := by
  refine VC_of_vwp_k ent_28 Try.func28 rfl (by simp) fun R hR => ?_
  refine vwp_sq [0, 1] fun K1 hK1 => vwp_region hT ?_
  simp
  refine hK1 _ ?_
  try clear hK1 K1
  refine vwp_sq [2, 3] fun K2 hK2 => vwp_region hT ?_
  simp
  refine vcall_z [] (served_spec p hp hc) (by rintro r ob' ⟨rfl, rfl⟩; simp) ?_
  rintro r ob' ⟨rfl, rfl⟩
  simp
  refine hK2 _ ?_
  try clear hK2 K2
  refine vwp_sq [2, 5] fun K3 hK3 => vwp_region hT ?_
  simp
  refine hK3 _ ?_
  try clear hK3 K3
  refine vwp_seq_k fun K4 hK4 => ?_
  refine vwp_sq [2, 5, 6] fun K5 hK5 => vwp_region hT ?_
  simp
  refine hK5 _ ?_
  try clear hK5 K5
  refine vwp_block ?_
  refine vwp_loop_s (fun i : Nat => ⟨[(5, .sl 2 (catR p.rs).length 1 0 (catR p.rs).length), (6, .sl 3 (unsF (w.os.take i) (catR p.rs)).length 1 0 (unsF (w.os.take i) (catR p.rs)).length), (14, odV w.os), (15, .int .i64 w.os.length), (16, .int .i64 (i : Int))], [.live w.c, .live p.c, .live (ints (servP p)), .live (ints (unsF (w.os.take i) (catR p.rs)))]⟩) (fun i => i ≤ w.os.length) (fun i => w.os.length - i) (0) ((Gh.virt 6 1 (by simp)).trans (Gh.to_k [5, 6, 14, 15, 16] [0, 1, 2, 3] (he := by simp [unsF]) (hh := by simp [unsF]))) (by omega) ?_
  rintro i hi
  have hul := unsF_le (w.os.take i) (catR p.rs)
  rw [List.length_take, Nat.min_eq_left hi] at hul
  intro K6 hK6
  refine vwp_sq [5, 6, 14, 15, 16] fun K7 hK7 => vwp_region hT ?_
  simp
  refine hK7 _ ?_
  try clear hK7 K7
  refine vwp_seq_k fun K8 hK8 => ?_
  refine vwp_cond (by first | rfl | (simp; rfl)) (fun h1 => ?_) fun h1 => ?_
  · simp -failIfUnchanged at h1; all_goals
   refine vwp_skip ?_
   refine hK8 _ ?_
   try clear hK8 K8
   refine vwp_seq_k fun K9 hK9 => ?_
   refine vwp_block ?_
   obtain ⟨s, hs⟩ := getI (l := w.os) (i := i) (by omega)
   have hrow := rowOd hs
   have hlen := lenOd w.os
   refine vwp_sq [5, 6, 14, 15, 16] fun K10 hK10 => vwp_region hT ?_
   simp [hrow, hlen]
   repeat refine ⟨by first | assumption | omega | (intros; omega), ?_⟩
   refine hK10 _ ?_
   try clear hK10 K10
   have hsl := servP_len p
   have htk : List.take (catR p.rs).length (ints (servP p)) = ints (servP p) := List.take_of_length_le (by simp [hsl])
   refine vwp_sq [5, 6, 8, 14, 15, 16] fun K11 hK11 => vwp_region hT ?_
   simp
   refine vcall_z [] (bsearch_spec (servP p) (by omega) (srt_sorted _) s.id) (by rintro r ob' ⟨i, rfl, rfl⟩; simp) ?_ (ha := by simp [hsl, htk]) (hok := by simp [hsl])
   rintro r ob' ⟨bi, rfl, rfl⟩
   simp
   refine hK11 _ ?_
   try clear hK11 K11
   refine vwp_seq_k fun K12 hK12 => ?_
   rcases hB : hasB (catR p.rs) s.id with _ | _
   · have hB2 : hasB (servP p) s.id = false := by rw [servP_has, hB]
     refine vwp_live [5, 6, 8, 10, 14, 15, 16] (vwp_region hT ?_)
     simp [hB2]
     refine hK12 _ ?_
     try clear hK12 K12
     refine vwp_cond (by first | rfl | (simp; rfl)) (fun h2 => ?_) fun h2 => ?_
     · simp -failIfUnchanged at h2; all_goals
      refine vwp_live [5, 6, 8, 14, 15, 16] (vwp_region hT ?_)
      simp
      repeat refine ⟨by first | assumption | omega | (intros; omega), ?_⟩
      refine hK9 _ ?_
      try clear hK9 K9
      have w1 : IntKind.i64.wrap ((i : Int) + 1) = i + 1 := w64 (by omega) (by omega)
      refine vwp_live [5, 6, 14, 15, 16] (vwp_region hT ?_)
      simp [w1]
      exact hK6 (i + 1) _ (Gh.to_k [5, 6, 14, 15, 16] [0, 1, 2, 3] (he := by simp [unsF_take hs, hB]) (hh := by simp [unsF_take hs, hB])) (by omega) (by omega)
     · simp -failIfUnchanged at h2; all_goals
      refine vwp_skip ?_
      refine hK9 _ ?_
      try clear hK9 K9
      simp_all
   · have hB2 : hasB (servP p) s.id = true := by rw [servP_has, hB]
     refine vwp_live [5, 6, 8, 10, 14, 15, 16] (vwp_region hT ?_)
     simp [hB2]
     refine hK12 _ ?_
     try clear hK12 K12
     refine vwp_cond (by first | rfl | (simp; rfl)) (fun h3 => ?_) fun h3 => ?_
     · simp -failIfUnchanged at h3; all_goals
      simp_all
     · simp -failIfUnchanged at h3; all_goals
      refine vwp_skip ?_
      refine hK9 _ ?_
      try clear hK9 K9
      have w1 : IntKind.i64.wrap ((i : Int) + 1) = i + 1 := w64 (by omega) (by omega)
      refine vwp_live [5, 6, 14, 15, 16] (vwp_region hT ?_)
      simp [w1]
      exact hK6 (i + 1) _ (Gh.to_k [5, 6, 14, 15, 16] [0, 1, 2, 3] (he := by simp [unsF_take hs, hB]) (hh := by simp [unsF_take hs, hB])) (by omega) (by omega)
  · simp -failIfUnchanged at h1; all_goals
   refine vwp_exit ?_
   simp only [inBlk, thenQ, if_true]
   refine hK4 _ ?_
   try clear hK4 K4
   obtain rfl : i = w.os.length := by omega
   rw [List.take_length] at hul ⊢
   have hrl := restP_len w p
   refine vwp_sq [6] fun K13 hK13 => vwp_region hT ?_
   simp
   refine vcall_k [3] (sort_spec (unsF w.os (catR p.rs)) (by omega)) ?_
   rintro r ob' ⟨rfl, rfl⟩
   simp
   refine hK13 _ ?_
   try clear hK13 K13
   refine vwp_sq [6] fun K14 hK14 => vwp_region hT ?_
   simp
   refine hK14 _ ?_
   try clear hK14 K14
   refine vwp_ret (hR _ _ ?_)
   exact ret_k [4] [3] ([.live (ints (restP w p))]) (.sl 0 (restP w p).length 1 0 (restP w p).length) (⟨rfl, rfl⟩) (hh := by simp [restP]) (hr := by simp [hrl])
theorem drest_spec (w : Wd) (ho : w.os.length < 1099511627776) (p : Pn) (hp : p.rs.length < 1099511627776) (hc : (catR p.rs).length < 1099511627776) : VC P 29 [.agg w.c, .agg p.c] [] (fun r ob' => r = .sl 0 (restP w p).length 1 0 (restP w p).length ∧ ob' = [.live (ints (restP w p))]) := by
  refine VC_of_vwp_k ent_29 Try.func29 rfl (by simp) fun R hR => ?_
  refine vwp_sq [0, 1] fun K1 hK1 => vwp_region hT ?_
  simp
  refine hK1 _ ?_
  try clear hK1 K1
  refine vwp_sq [2, 3] fun K2 hK2 => vwp_region hT ?_
  simp
  refine vcall_z [] (dserved_spec p hp hc) (by rintro r ob' ⟨rfl, rfl⟩; simp) ?_
  rintro r ob' ⟨rfl, rfl⟩
  simp
  refine hK2 _ ?_
  try clear hK2 K2
  refine vwp_sq [2, 5] fun K3 hK3 => vwp_region hT ?_
  simp
  refine hK3 _ ?_
  try clear hK3 K3
  refine vwp_seq_k fun K4 hK4 => ?_
  refine vwp_sq [2, 5, 6] fun K5 hK5 => vwp_region hT ?_
  simp
  refine hK5 _ ?_
  try clear hK5 K5
  refine vwp_block ?_
  refine vwp_loop_s (fun i : Nat => ⟨[(2, .ptr 0 5 0), (5, .sl 2 (catR p.rs).length 1 0 (catR p.rs).length), (6, .sl 3 (unsF (w.os.take i) (catR p.rs)).length 1 0 (unsF (w.os.take i) (catR p.rs)).length), (7, .int .i64 (i : Int))], [.live w.c, .live p.c, .live (ints (servP p)), .live (ints (unsF (w.os.take i) (catR p.rs)))]⟩) (fun i => i ≤ w.os.length) (fun i => w.os.length - i) (0) (Gh.to_k [2, 5, 6, 7] [0, 1, 2, 3] (he := by simp [unsF]) (hh := by simp [unsF])) (by omega) ?_
  rintro i hi
  have hul := unsF_le (w.os.take i) (catR p.rs)
  rw [List.length_take, Nat.min_eq_left hi] at hul
  intro K6 hK6
  refine vwp_seq_k fun K7 hK7 => ?_
  refine vwp_sq [2, 5, 6, 7] fun K8 hK8 => vwp_region hT ?_
  simp
  refine hK8 _ ?_
  try clear hK8 K8
  refine vwp_cond (by first | rfl | (simp; rfl)) (fun h1 => ?_) fun h1 => ?_
  · simp -failIfUnchanged at h1; all_goals
   refine vwp_skip ?_
   refine hK7 _ ?_
   try clear hK7 K7
   refine vwp_seq_k fun K9 hK9 => ?_
   refine vwp_block ?_
   obtain ⟨s, hs⟩ := getI (l := w.os) (i := i) (by omega)
   have hg0 := (getOd hs).1
   have hlen := lenOd w.os
   have li : i * 8 < w.os.length * 8 := by omega
   have hsl := servP_len p
   have htk : List.take (catR p.rs).length (ints (servP p)) = ints (servP p) := List.take_of_length_le (by simp [hsl])
   have hB2 := servP_has p s.id
   refine vwp_sq [2, 5, 6, 7] fun K10 hK10 => vwp_region hT ?_
   simp [hg0, hlen]
   repeat refine ⟨by first | assumption | omega | (intros; omega), ?_⟩
   refine vcall_z [] (in_spec (servP p) (by omega) s.id) (by rintro r ob' ⟨rfl, rfl⟩; simp) ?_ (ha := by simp [hsl, htk]) (hok := by simp [hsl])
   rintro r ob' ⟨rfl, rfl⟩
   simp [hg0, hlen]
   repeat refine ⟨by first | assumption | omega | (intros; omega), ?_⟩
   refine hK10 _ ?_
   try clear hK10 K10
   refine vwp_cond (by first | rfl | (simp; rfl)) (fun h2 => ?_) fun h2 => ?_
   · simp -failIfUnchanged at h2; all_goals
    have q := h2
    have hB : hasB (catR p.rs) s.id = false := by rw [← hB2]; simpa using q
    refine vwp_live [2, 5, 6, 7] (vwp_region hT ?_)
    simp [hg0, hlen]
    repeat refine ⟨by first | assumption | omega | (intros; omega), ?_⟩
    refine hK9 _ ?_
    try clear hK9 K9
    have w1 : IntKind.i64.wrap ((i : Int) + 1) = i + 1 := w64 (by omega) (by omega)
    refine vwp_live [2, 5, 6, 7] (vwp_region hT ?_)
    simp [w1]
    exact hK6 (i + 1) _ (Gh.to_k [2, 5, 6, 7] [0, 1, 2, 3] (he := by simp [unsF_take hs, hB]) (hh := by simp [unsF_take hs, hB])) (by omega) (by omega)
   · simp -failIfUnchanged at h2; all_goals
    have q := h2
    have hB : hasB (catR p.rs) s.id = true := by rw [← hB2]; simpa using q
    refine vwp_skip ?_
    refine hK9 _ ?_
    try clear hK9 K9
    have w1 : IntKind.i64.wrap ((i : Int) + 1) = i + 1 := w64 (by omega) (by omega)
    refine vwp_live [2, 5, 6, 7] (vwp_region hT ?_)
    simp [w1]
    exact hK6 (i + 1) _ (Gh.to_k [2, 5, 6, 7] [0, 1, 2, 3] (he := by simp [unsF_take hs, hB]) (hh := by simp [unsF_take hs, hB])) (by omega) (by omega)
  · simp -failIfUnchanged at h1; all_goals
   refine vwp_exit ?_
   simp only [inBlk, thenQ, if_true]
   refine hK4 _ ?_
   try clear hK4 K4
   obtain rfl : i = w.os.length := by omega
   rw [List.take_length] at hul ⊢
   have hrl := restP_len w p
   have htk : List.take (unsF w.os (catR p.rs)).length (ints (unsF w.os (catR p.rs))) = ints (unsF w.os (catR p.rs)) := List.take_of_length_le (by simp)
   refine vwp_sq [6] fun K11 hK11 => vwp_region hT ?_
   simp
   refine vcall_z [] (rsorted_spec (unsF w.os (catR p.rs)) (by omega)) (by rintro r ob' ⟨rfl, rfl⟩; simp) ?_
   rintro r ob' ⟨rfl, rfl⟩
   simp
   refine hK11 _ ?_
   try clear hK11 K11
   refine vwp_ret (hR _ _ ?_)
   exact ret_k [4] [4] ([.live (ints (restP w p))]) (.sl 0 (restP w p).length 1 0 (restP w p).length) (⟨rfl, rfl⟩) (hh := by simp [restP]) (hr := by simp [hrl])
end Go.Proofs.Ytinigjmfjabicaa
