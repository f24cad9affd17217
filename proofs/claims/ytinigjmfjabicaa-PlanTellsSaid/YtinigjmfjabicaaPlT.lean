/- What a plan costs, or why it may not be: the walk. -/
import Derived.Test.YtinigjmfjabicaaPlS
import Derived.Test.YtinigjmfjabicaaVXc
namespace Go.Proofs.Ytinigjmfjabicaa
open Go Go.VX Go.RowKit
set_option linter.unusedVariables false
set_option linter.unusedSimpArgs false
set_option maxHeartbeats 20000000
set_option maxRecDepth 100000

def runsP (w : Wd) : List Rt → Option (List Int) × Int
  | [] => (some [], 0)
  | r :: rs => match runP w r with
    | (none, e) => (none, e)
    | (some t, _) => match runsP w rs with
      | (none, e) => (none, e)
      | (some cs, _) => (some (t.co :: cs), 0)
def checkP (w : Wd) (p : Pn) : Int × Int :=
  if w.e ≠ 0 then (0, w.e) else if 6 < p.rs.length then (0, 4) else match runsP w p.rs with
    | (none, e) => (0, e)
    | (some cs, _) => if (dupB (p.rs.map (·.tr)) || dupB (catR p.rs)) = true then (0, 6) else if p.un ≠ restP w p then (0, 2) else (cs.sum, 0)
theorem runsP_snoc {w : Wd} {r : Rt} {t : Tr} {e e2 : Int} : ∀ {l : List Rt} {cs : List Int}, runsP w l = (some cs, e) → runP w r = (some t, e2) → runsP w (l ++ [r]) = (some (cs ++ [t.co]), 0)
  | [], cs, h, h2 => by simp [runsP] at h; obtain ⟨rfl, _⟩ := h; simp [runsP, h2]
  | r0 :: l, cs, h, h2 => by
    simp only [List.cons_append, runsP] at h ⊢
    split at h
    · cases h
    · split at h
      · cases h
      · rename_i cs2 _ h3
        cases h
        rw [runsP_snoc h3 h2]; rfl
theorem runsP_bad {w : Wd} {r : Rt} {rest : List Rt} {e e2 : Int} : ∀ {l : List Rt} {cs : List Int}, runsP w l = (some cs, e) → runP w r = (none, e2) → runsP w (l ++ r :: rest) = (none, e2)
  | [], cs, h, h2 => by simp [runsP, h2]
  | r0 :: l, cs, h, h2 => by
    simp only [List.cons_append, runsP] at h ⊢
    split at h
    · cases h
    · split at h
      · cases h
      · rename_i cs2 _ h3
        rw [runsP_bad h3 h2]
theorem runP_none {w : Wd} {r : Rt} {e : Int} (h : runP w r = (none, e)) : e ≠ 0 := by
  unfold runP at h
  split at h
  · cases h; assumption
  split at h
  · cases h; decide
  unfold runT at h
  split at h
  · cases h; decide
  split at h
  · cases h; decide
  unfold runL at h
  split at h
  · rename_i hq
    cases h
    unfold ordsP at hq
    split at hq
    · cases hq; decide
    · split at hq
      · cases hq
      · cases hq; decide
  · split at h
    · cases h; assumption
    · unfold tripP at h
      split at h
      · cases h; decide
      · cases h
theorem goR_fine {n : Int} {D T : List Int} (hA : areaB n D T = true) : ∀ (l : List Od) {s : Rn} {k : Nat}, s.fine n k → (∀ o ∈ l, ordB n o = true) → (goR n D T s l).fine n (k + l.length)
  | [], s, k, h, _ => by simpa [goR] using h
  | o :: r, s, k, h, ho => by
    have := goR_fine hA r (h.step hA (ho o (by simp))).1 fun o ho2 => ho o (by simp [ho2])
    simp only [goR, List.length_cons]
    rw [show k + (r.length + 1) = k + 1 + r.length by omega]; exact this
theorem s0_fine {w : Wd} (hA : areaB w.n w.D w.T = true) {t : Tk} (ht : trkB t = true) : (Wd.s0 t).fine w.n 0 :=
  ⟨by simp [Wd.s0]; exact (areaB_n hA).1, by simp [Wd.s0]; have := trkB_iff.1 ht; omega, by simp [Wd.s0], by simp [Wd.s0]⟩
/-- What is so of a trip. -/
theorem runP_some {w : Wd} {r : Rt} {t : Tr} {e : Int} (h : runP w r = (some t, e)) : e = 0 ∧ w.ok ∧ ∃ k tk L, fndT w.ts r.tr = some k ∧ w.ts[k]? = some tk ∧ pick w.os r.st = some L ∧ r.st.Nodup ∧ 1 ≤ r.st.length ∧ r.st.length ≤ 12 ∧ carE tk L = 0 ∧ tripP w tk L = (some t, 0) := by
  unfold runP at h
  split at h
  · cases h
  rename_i he
  have hok : w.ok := Wd.e_zero.1 (Classical.byContradiction he)
  split at h
  · cases h
  rename_i hlen
  unfold runT at h
  split at h
  · cases h
  rename_i k hk
  split at h
  · cases h
  rename_i tk htk
  unfold runL at h
  split at h
  · cases h
  rename_i L e3 hq
  split at h
  · cases h
  rename_i hcar
  have hpk : pick w.os r.st = some L ∧ r.st.Nodup := by
    unfold ordsP at hq
    split at hq
    · cases hq
    · split at hq
      · cases hq; exact ⟨by assumption, by assumption⟩
      · cases hq
  have he0 : e = 0 := by
    unfold tripP at h
    split at h
    · cases h
    · cases h; rfl
  subst he0
  exact ⟨rfl, hok, k, tk, L, hk, htk, hpk.1, hpk.2, by omega, by omega, Classical.byContradiction hcar, h⟩
theorem trip_co {w : Wd} {tk : Tk} {L : List Od} {t : Tr} {e : Int} (h : tripP w tk L = (some t, e)) : t.co = tk.fx + tk.ra * t.ds ∧ t.ds = tour w.n w.D 0 (nds L) := by
  unfold tripP at h
  split at h
  · cases h
  · cases h
    refine ⟨rfl, ?_⟩
    have := go_tour w.n w.D w.T L (Wd.s0 tk)
    simp only [Wd.s0, Int.zero_add] at this
    exact this
theorem run_co {w : Wd} {r : Rt} {t : Tr} {e : Int} (h : runP w r = (some t, e)) : 0 ≤ t.co ∧ t.co ≤ 100000000000 := by
  obtain ⟨_, hok, k, tk, L, _, htk, hpk, _, _, hle, _, ht⟩ := runP_some h
  obtain ⟨hc, hd⟩ := trip_co ht
  have htb := trkB_iff.1 (hok.ts tk (List.mem_of_getElem? htk))
  obtain ⟨hsm, hll, hlo⟩ := pick_small hok hpk hle
  have hni : ∀ x ∈ nds L, 0 ≤ x ∧ x < w.n := by
    intro x hx
    obtain ⟨o, ho2, rfl⟩ := List.mem_map.1 hx
    have := ordB_iff.1 (hlo o ho2)
    omega
  have htb2 := tour_bounds hok.A (nds L) 0 ⟨by omega, by have := areaB_n hok.A; omega⟩ hni
  have hnl : (nds L).length = L.length := by simp [nds]
  rw [← hd, hnl] at htb2
  have h1 := Int.mul_nonneg (show 0 ≤ tk.ra by omega) htb2.1
  have h2 := Int.mul_le_mul (show tk.ra ≤ 1000 by omega) (show t.ds ≤ 13000000 by omega) htb2.1 (by omega)
  rw [hc]; omega
theorem runsP_co {w : Wd} : ∀ {l : List Rt} {cs : List Int} {e : Int}, runsP w l = (some cs, e) → cs.length = l.length ∧ ∀ n ∈ cs, 0 ≤ n ∧ n ≤ 100000000000
  | [], cs, e, h => by simp [runsP] at h; obtain ⟨rfl, _⟩ := h; simp
  | r :: l, cs, e, h => by
    simp only [runsP] at h
    split at h
    · cases h
    rename_i t e2 hr
    split at h
    · cases h
    rename_i cs2 e3 hl
    cases h
    obtain ⟨h1, h2⟩ := runsP_co hl
    refine ⟨by simp [h1], fun n hn => ?_⟩
    rcases List.mem_cons.1 hn with rfl | hn
    · exact run_co hr
    · exact h2 n hn
structure KP where (i : Nat) (cs : List Int)
def trs (l : List Rt) : List Int := l.map (·.tr)
theorem trs_take {l : List Rt} {i : Nat} {s : Rt} (h : l[i]? = some s) : trs (l.take (i + 1)) = trs (l.take i) ++ [s.tr] := by rw [take_snoc h]; simp [trs]
theorem check_spec (w : Wd) (ho : w.os.length < 1099511627776) (ht : w.ts.length < 1099511627776) (p : Pn) (hp : p.rs.length < 1099511627776) (hc : (catR p.rs).length < 1099511627776) (hu : p.un.length < 1099511627776) : VC P 22 [.agg w.c, .agg p.c] [] (fun r ob' => r = .tup [.int .i64 (checkP w p).1, .int .i64 (checkP w p).2] ∧ ob' = []) := by
  refine VC_of_vwp_k ent_22 Try.func22 rfl (by simp) fun R hR => ?_
  refine vwp_sq [0, 1] fun K1 hK1 => vwp_region hT ?_
  simp
  refine hK1 _ ?_
  try clear hK1 K1
  refine vwp_seq_k fun K2 hK2 => ?_
  refine vwp_sq [2, 3] fun K3 hK3 => vwp_region hT ?_
  simp
  refine vcall_z [] (rworld_spec w ho ht) (by rintro r ob' ⟨rfl, rfl⟩; simp) ?_
  rintro r ob' ⟨rfl, rfl⟩
  simp
  refine hK3 _ ?_
  try clear hK3 K3
  refine vwp_sq [2, 3, 6] fun K4 hK4 => vwp_region hT ?_
  simp
  refine hK4 _ ?_
  try clear hK4 K4
  refine vwp_cond (by first | rfl | (simp; rfl)) (fun h1 => ?_) fun h1 => ?_
  · simp -failIfUnchanged at h1; all_goals
   have he := h1
   refine vwp_sq [6] fun K5 hK5 => vwp_region hT ?_
   simp
   refine hK5 _ ?_
   try clear hK5 K5
   refine vwp_ret (hR _ _ ?_)
   have hw : checkP w p = (0, w.e) := by
     unfold checkP; rw [if_pos he]
   rw [hw]
   exact ret_k [4, 5] [] ([]) (.tup [.int .i64 (0), .int .i64 (w.e)]) (⟨rfl, rfl⟩)
  · simp -failIfUnchanged at h1; all_goals
   have he : w.e = 0 := by simpa using h1
   refine vwp_skip ?_
   refine hK2 _ ?_
   try clear hK2 K2
   refine vwp_seq_k fun K6 hK6 => ?_
   refine vwp_sq [2, 3] fun K7 hK7 => vwp_region hT ?_
   simp
   refine hK7 _ ?_
   try clear hK7 K7
   refine vwp_cond (by first | rfl | (simp; rfl)) (fun h2 => ?_) fun h2 => ?_
   · simp -failIfUnchanged at h2; all_goals
    refine vwp_sq [] fun K8 hK8 => vwp_region hT ?_
    simp
    refine hK8 _ ?_
    try clear hK8 K8
    refine vwp_ret (hR _ _ ?_)
    have hw : checkP w p = (0, 4) := by
      unfold checkP; rw [if_neg (by simp [he]), if_pos (by omega)]
    rw [hw]
    exact ret_k [4, 5] [] ([]) (.tup [.int .i64 (0), .int .i64 (4)]) (⟨rfl, rfl⟩)
   · simp -failIfUnchanged at h2; all_goals
    have h6 : p.rs.length ≤ 6 := by omega
    refine vwp_skip ?_
    refine hK6 _ ?_
    try clear hK6 K6
    refine vwp_sq [2, 3] fun K9 hK9 => vwp_region hT ?_
    simp
    refine hK9 _ ?_
    try clear hK9 K9
    refine vwp_sq [2, 3, 7] fun K10 hK10 => vwp_region hT ?_
    simp
    refine hK10 _ ?_
    try clear hK10 K10
    refine vwp_seq_k fun K11 hK11 => ?_
    refine vwp_sq [2, 3, 7, 8] fun K12 hK12 => vwp_region hT ?_
    simp
    refine hK12 _ ?_
    try clear hK12 K12
    refine vwp_block ?_
    refine vwp_loop_s (fun u : KP => ⟨[(2, .ptr 0 5 0), (3, .ptr 1 2 0), (7, .sl 2 u.cs.length 1 0 u.cs.length), (8, .sl 3 (trs (p.rs.take u.i)).length 1 0 (trs (p.rs.take u.i)).length), (23, rtV p.rs), (24, .int .i64 p.rs.length), (25, .int .i64 (u.i : Int))], [.live w.c, .live p.c, .live (ints u.cs), .live (ints (trs (p.rs.take u.i)))]⟩) (fun u => u.i ≤ p.rs.length ∧ runsP w (p.rs.take u.i) = (some u.cs, 0)) (fun u => p.rs.length - u.i) (⟨0, []⟩) ((Gh.virt 7 1 (by simp)).trans ((Gh.virt 8 1 (by simp)).trans (Gh.to_k [2, 3, 7, 8, 23, 24, 25] [0, 1, 2, 3] (he := by simp [trs]) (hh := by simp [trs])))) (⟨by simp, rfl⟩) ?_
    rintro ⟨i, cs⟩ ⟨hi, hrs⟩
    dsimp only at hi hrs ⊢
    obtain ⟨hcl, hcb⟩ := runsP_co hrs
    rw [List.length_take, Nat.min_eq_left hi] at hcl
    have htl : (trs (p.rs.take i)).length = i := by simp [trs]; omega
    intro K13 hK13
    refine vwp_sq [2, 3, 7, 8, 23, 24, 25] fun K14 hK14 => vwp_region hT ?_
    simp
    refine hK14 _ ?_
    try clear hK14 K14
    refine vwp_seq_k fun K15 hK15 => ?_
    refine vwp_cond (by first | rfl | (simp; rfl)) (fun h3 => ?_) fun h3 => ?_
    · simp -failIfUnchanged at h3; all_goals
     refine vwp_skip ?_
     refine hK15 _ ?_
     try clear hK15 K15
     refine vwp_seq_k fun K16 hK16 => ?_
     refine vwp_block ?_
     obtain ⟨s, hs⟩ := getI (l := p.rs) (i := i) (by omega)
     have hrow := rowRt hs
     have hlen := lenRt p.rs
     have hst : s.st.length < 1099511627776 := by
       have h1 := catR_le p.rs (i + 1)
       rw [catR_take hs, List.length_append] at h1
       omega
     refine vwp_sq [2, 3, 7, 8, 23, 24, 25] fun K17 hK17 => vwp_region hT ?_
     simp [hrow, hlen]
     repeat refine ⟨by first | assumption | omega | (intros; omega), ?_⟩
     refine hK17 _ ?_
     try clear hK17 K17
     refine vwp_seq_k fun K18 hK18 => ?_
     rcases hrun : runP w s with ⟨_ | tr, e⟩
     · have he2 := runP_none hrun
       have hsp := split_at hs
       have hbad : runsP w p.rs = (none, e) := by rw [hsp]; exact runsP_bad hrs hrun
       refine vwp_live [2, 3, 7, 8, 10, 23, 24, 25] (vwp_region hT ?_)
       simp
       repeat refine ⟨by first | assumption | omega | (intros; omega), ?_⟩
       refine vcall_z [] (run_spec w ho ht s hst) (by rw [hrun]; rintro r ob' ⟨rfl, rfl⟩; simp) ?_
       rw [hrun]
       rintro r ob' ⟨rfl, rfl⟩
       simp
       repeat refine ⟨by first | assumption | omega | (intros; omega), ?_⟩
       refine hK18 _ ?_
       try clear hK18 K18
       refine vwp_seq_k fun K19 hK19 => ?_
       refine vwp_sq [2, 3, 7, 8, 10, 11, 12, 23, 24, 25] fun K20 hK20 => vwp_region hT ?_
       simp [he2]
       refine hK20 _ ?_
       try clear hK20 K20
       refine vwp_cond (by first | rfl | (simp; rfl)) (fun h4 => ?_) fun h4 => ?_
       · simp -failIfUnchanged at h4; all_goals
        refine vwp_sq [12] fun K21 hK21 => vwp_region hT ?_
        simp
        refine hK21 _ ?_
        try clear hK21 K21
        refine vwp_ret (hR _ _ ?_)
        have hw : checkP w p = (0, e) := by
          unfold checkP; rw [if_neg (by simp [he]), if_neg (by omega), hbad]
        rw [hw]
        exact ret_k [4, 5] [] ([]) (.tup [.int .i64 (0), .int .i64 (e)]) (⟨rfl, rfl⟩)
       · simp -failIfUnchanged at h4; all_goals
        clear hsp hbad
        refine vwp_skip ?_
        refine hK19 _ ?_
        try clear hK19 K19
        simp_all
     · obtain ⟨he2, hok, _⟩ := runP_some hrun
       subst he2
       have hco := run_co hrun
       refine vwp_live [2, 3, 7, 8, 10, 23, 24, 25] (vwp_region hT ?_)
       simp
       repeat refine ⟨by first | assumption | omega | (intros; omega), ?_⟩
       refine vcall_z [] (run_spec w ho ht s hst) (by rw [hrun]; rintro r ob' ⟨rfl, rfl⟩; simp; intro c hc; obtain ⟨n, rfl⟩ := vsC hc; rfl) ?_
       rw [hrun]
       rintro r ob' ⟨rfl, rfl⟩
       simp
       repeat refine ⟨by first | assumption | omega | (intros; omega), ?_⟩
       refine hK18 _ ?_
       try clear hK18 K18
       refine vwp_seq_k fun K22 hK22 => ?_
       refine vwp_sq [2, 3, 7, 8, 10, 11, 12, 23, 24, 25] fun K23 hK23 => vwp_region hT ?_
       simp
       refine hK23 _ ?_
       try clear hK23 K23
       refine vwp_cond (by first | rfl | (simp; rfl)) (fun h5 => ?_) fun h5 => ?_
       · simp -failIfUnchanged at h5; all_goals
        refine vwp_seq_k fun K24 hK24 => ?_
        simp_all
       · simp -failIfUnchanged at h5; all_goals
        refine vwp_skip ?_
        refine hK22 _ ?_
        try clear hK22 K22
        refine vwp_live [2, 3, 7, 8, 10, 11, 23, 24, 25] (vwp_storm hT hm [.pure, .win 0 0, .win 0 0, .lit, .mv, .pure, .win 0 1, .win 0 1, .lit, .mv, .pure, .pure] [[], [], [1], [1, 2], [0, 1, 2, 3], [], [], [6], [6, 7], [0, 1, 2, 3, 4, 5, 6, 7, 8], [0, 1, 2, 3, 4, 5, 6, 7, 8, 9], [0, 1, 2, 3, 4, 5, 6, 7, 8, 9, 10]] (by kernel_rfl) ?_)
        simp [htl, hcl]
        repeat refine ⟨by first | assumption | omega | (intros; omega), ?_⟩
        refine hK16 _ ?_
        try clear hK16 K16
        have w1 : IntKind.i64.wrap ((i : Int) + 1) = i + 1 := w64 (by omega) (by omega)
        refine vwp_live [2, 3, 7, 8, 23, 24, 25] (vwp_region hT ?_)
        simp [w1]
        exact hK13 (⟨i + 1, cs ++ [tr.co]⟩) _ (Gh.to_k [2, 3, 7, 8, 23, 24, 25] [0, 1, 2, 3] (he := by simp [trs_take hs, hcl, htl]) (hh := by simp [trs_take hs])) (⟨by dsimp only; omega, by dsimp only; rw [take_snoc hs]; exact runsP_snoc hrs hrun⟩) (by dsimp only; omega)
    · simp -failIfUnchanged at h3; all_goals
     refine vwp_exit ?_
     simp only [inBlk, thenQ, if_true]
     refine hK11 _ ?_
     try clear hK11 K11
     refine vwp_seq_k fun K25 hK25 => ?_
     refine vwp_block ?_
     refine vwp_seq_k fun K26 hK26 => ?_
     obtain rfl : i = p.rs.length := by omega
     rw [List.take_length] at hrs htl ⊢
     rw [← htl] at hcl
     obtain ⟨dt, hdt⟩ : ∃ dt, dt = dupB (trs p.rs) := ⟨_, rfl⟩
     have hck : checkP w p = if (dupB (trs p.rs) || dupB (catR p.rs)) = true then (0, 6) else if p.un ≠ restP w p then (0, 2) else (cs.sum, 0) := by unfold checkP; rw [if_neg (by simp [he]), if_neg (by omega), hrs]; rfl
     have hsl := servP_len p
     have hsd : dupB (servP p) = dupB (catR p.rs) := by
       unfold dupB; congr 1; exact decide_eq_decide.2 (srt_perm (catR p.rs)).nodup_iff
     have htk8 : List.take (trs p.rs).length (ints (trs p.rs)) = ints (trs p.rs) := List.take_of_length_le (by simp)
     have htk9 : List.take (catR p.rs).length (ints (servP p)) = ints (servP p) := List.take_of_length_le (by simp [hsl])
     rw [← hdt] at hck
     rcases dt with _ | _
     · rcases hdc : dupB (catR p.rs) with _ | _
       skip
       · refine vwp_live [2, 3, 7, 8] (vwp_region hT ?_)
         simp [← hdt, hsd, hdc]
         refine vcall_z [] (twice_spec (trs p.rs) (by omega)) (by rintro r ob' ⟨rfl, rfl⟩; simp) ?_ (ha := by simp [htk8]) (hok := by simp)
         rintro r ob' ⟨rfl, rfl⟩
         simp [← hdt, hsd, hdc]
         refine vcall_z [] (served_spec p hp hc) (by rintro r ob' ⟨rfl, rfl⟩; simp) ?_
         rintro r ob' ⟨rfl, rfl⟩
         simp [← hdt, hsd, hdc]
         refine vcall_z [] (twice_spec (servP p) (by omega)) (by rintro r ob' ⟨rfl, rfl⟩; simp) ?_ (ha := by simp [hsl, htk9]) (hok := by simp [hsl])
         rintro r ob' ⟨rfl, rfl⟩
         simp [← hdt, hsd, hdc]
         refine hK26 _ ?_
         try clear hK26 K26
         refine vwp_cond (by first | rfl | (simp; rfl)) (fun h6 => ?_) fun h6 => ?_
         · simp -failIfUnchanged at h6; all_goals
          refine vwp_seq_k fun K27 hK27 => ?_
          simp_all
         · simp -failIfUnchanged at h6; all_goals
          have htkr : List.take (restP w p).length (ints (restP w p)) = ints (restP w p) := List.take_of_length_le (by simp)
          refine vwp_sq [2, 3, 7] fun K28 hK28 => vwp_storm hT hm [.win 0 1, .win 0 1, .win 0 0, .win 0 0, .mv, .mv, .pure, .pure] [[], [0], [], [], [2, 3], [0, 1, 2, 3, 4], [0, 1, 2, 3, 4, 5], [0, 1, 2, 3, 4, 5, 6]] (by kernel_rfl) ?_
          simp
          refine ⟨.sl 5 (restP w p).length 1 0 (restP w p).length, [.live w.c, .live p.c, .live (ints cs), .live (ints (trs p.rs)), .live (ints (servP p))] ++ [.live (ints (restP w p))], fun sl => ?_, ?_⟩
          · refine vcall_z [] (rest_spec w ho p hp hc) (by rintro r ob' ⟨rfl, rfl⟩; simp) ?_
            rintro r ob' ⟨rfl, rfl⟩
            simp
          simp
          refine ⟨.bool (decide (p.un = restP w p)), [.live w.c, .live p.c, .live (ints cs), .live (ints (trs p.rs)), .live (ints (servP p))] ++ [.live (ints (restP w p))], fun sl => ?_, ?_⟩
          · refine vcall_z [] (equal_spec p.un (restP w p) (by omega) (by have h1 := restP_len w p; have h2 := unsF_le w.os (catR p.rs); omega)) (by rintro r ob' ⟨rfl, rfl⟩; simp) ?_ (ha := by simp [htkr])
            rintro r ob' ⟨rfl, rfl⟩
            simp
          simp
          refine hK28 _ ?_
          try clear hK28 K28
          refine vwp_cond (by first | rfl | (simp; rfl)) (fun h7 => ?_) fun h7 => ?_
          · simp -failIfUnchanged at h7; all_goals
           have q := h7
           refine vwp_sq [] fun K29 hK29 => vwp_region hT ?_
           simp
           refine hK29 _ ?_
           try clear hK29 K29
           refine vwp_ret (hR _ _ ?_)
           have hw : checkP w p = (0, 2) := by
             rw [hck]; simp [hdc]; simpa using q
           rw [hw]
           exact ret_k [4, 5] [] ([]) (.tup [.int .i64 (0), .int .i64 (2)]) (⟨rfl, rfl⟩)
          · simp -failIfUnchanged at h7; all_goals
           have q := h7
           have hw : checkP w p = (cs.sum, 0) := by
             rw [hck]
             simp [hdc]
             simpa using q
           have hsn : sumN cs = (cs.sum, 0) := sumN_small hcb (by omega)
           refine vwp_skip ?_
           refine hK25 _ ?_
           try clear hK25 K25
           refine vwp_sq [7] fun K30 hK30 => vwp_region hT ?_
           simp [hsn]
           refine vcall_z [] (sum_spec cs (by omega)) (by rintro r ob' ⟨rfl, rfl⟩; simp) ?_
           rintro r ob' ⟨rfl, rfl⟩
           simp [hsn]
           refine hK30 _ ?_
           try clear hK30 K30
           refine vwp_ret (hR _ _ ?_)
           rw [hw]
           exact ret_k [4, 5] [] ([]) (.tup [.int .i64 cs.sum, .int .i64 0]) (⟨rfl, rfl⟩)
       · refine vwp_live [2, 3, 7, 8] (vwp_region hT ?_)
         simp [← hdt, hsd, hdc]
         refine vcall_z [] (twice_spec (trs p.rs) (by omega)) (by rintro r ob' ⟨rfl, rfl⟩; simp) ?_ (ha := by simp [htk8]) (hok := by simp)
         rintro r ob' ⟨rfl, rfl⟩
         simp [← hdt, hsd, hdc]
         refine vcall_z [] (served_spec p hp hc) (by rintro r ob' ⟨rfl, rfl⟩; simp) ?_
         rintro r ob' ⟨rfl, rfl⟩
         simp [← hdt, hsd, hdc]
         refine vcall_z [] (twice_spec (servP p) (by omega)) (by rintro r ob' ⟨rfl, rfl⟩; simp) ?_ (ha := by simp [hsl, htk9]) (hok := by simp [hsl])
         rintro r ob' ⟨rfl, rfl⟩
         simp [← hdt, hsd, hdc]
         refine hK26 _ ?_
         try clear hK26 K26
         refine vwp_cond (by first | rfl | (simp; rfl)) (fun h8 => ?_) fun h8 => ?_
         · simp -failIfUnchanged at h8; all_goals
          refine vwp_sq [] fun K31 hK31 => vwp_region hT ?_
          simp
          refine hK31 _ ?_
          try clear hK31 K31
          refine vwp_ret (hR _ _ ?_)
          have hw : checkP w p = (0, 6) := by
            rw [hck]; simp [hdc]
          rw [hw]
          exact ret_k [4, 5] [] ([]) (.tup [.int .i64 (0), .int .i64 (6)]) (⟨rfl, rfl⟩)
         · simp -failIfUnchanged at h8; all_goals
          refine vwp_seq_k fun K32 hK32 => ?_
          simp_all
     · refine vwp_live [2, 3, 7, 8] (vwp_region hT ?_)
       simp [← hdt]
       refine vcall_z [] (twice_spec (trs p.rs) (by omega)) (by rintro r ob' ⟨rfl, rfl⟩; simp) ?_ (ha := by simp [htk8]) (hok := by simp)
       rintro r ob' ⟨rfl, rfl⟩
       simp [← hdt]
       refine hK26 _ ?_
       try clear hK26 K26
       refine vwp_cond (by first | rfl | (simp; rfl)) (fun h9 => ?_) fun h9 => ?_
       · simp -failIfUnchanged at h9; all_goals
        refine vwp_sq [] fun K33 hK33 => vwp_region hT ?_
        simp
        refine hK33 _ ?_
        try clear hK33 K33
        refine vwp_ret (hR _ _ ?_)
        have hw : checkP w p = (0, 6) := by
          rw [hck]; simp
        rw [hw]
        exact ret_k [4, 5] [] ([]) (.tup [.int .i64 (0), .int .i64 (6)]) (⟨rfl, rfl⟩)
       · simp -failIfUnchanged at h9; all_goals
        refine vwp_seq_k fun K34 hK34 => ?_
        simp_all
end Go.Proofs.Ytinigjmfjabicaa
