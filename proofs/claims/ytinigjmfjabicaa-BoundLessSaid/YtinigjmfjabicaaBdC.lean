/- The certificate that is made: the walk. -/
import Derived.Test.YtinigjmfjabicaaBdB
namespace Go.Proofs.Ytinigjmfjabicaa
open Go Go.VX Go.RowKit
set_option linter.unusedVariables false
set_option linter.unusedSimpArgs false
set_option maxHeartbeats 20000000
set_option maxRecDepth 100000

def leaNd (w : Wd) (L : List Od) : Int := lea (L.map fun o => lg w.n w.D o.nd 0)
def inF (w : Wd) (L : List Od) (m : Nat) : List Int := (L.zipIdx.take m).map fun q => inP w L q.2 q.1
def mkC (w : Wd) (S : List Int) (L : List Od) : Ct :=
  if L = [] then ⟨S, [], 0, 0, 0, 0⟩ else
    ⟨S, inF w L L.length, leaNd w L, lea (w.ts.map (·.ra)), lea (w.ts.map (·.fx)), lea (w.ts.map (·.fx)) + lea (w.ts.map (·.ra)) * ((inF w L L.length).sum + leaNd w L)⟩
def makeP (w : Wd) (ids : List Int) : Option Ct × Int :=
  if w.e ≠ 0 then (none, w.e) else if dupB ids = true then (none, 6) else match pick w.os (srt ids) with
    | none => (none, 5)
    | some L => (some (mkC w (srt ids) L), 0)
theorem inF_step {w : Wd} {L : List Od} {i : Nat} {o : Od} (h : L[i]? = some o) : inF w L (i + 1) = inF w L i ++ [inP w L i o] := by
  have : L.zipIdx[i]? = some (o, i) := by simp [List.getElem?_zipIdx, h]
  rw [inF, take_snoc this, inF]; simp
theorem inF_len (w : Wd) (L : List Od) (m : Nat) (h : m ≤ L.length) : (inF w L m).length = m := by simp [inF]; omega
theorem inF_get {w : Wd} {L : List Od} {i : Nat} {o : Od} (h : L[i]? = some o) : (inF w L L.length)[i]? = some (inP w L i o) := by
  have h1 : L.zipIdx[i]? = some (o, i) := by simp [List.getElem?_zipIdx, h]
  have h2 : L.zipIdx.take L.length = L.zipIdx := List.take_of_length_le (by simp)
  rw [inF, h2, List.getElem?_map, h1]; rfl
theorem pick_all {os : List Od} : ∀ {l : List Int} {L : List Od}, pick os l = some L → ∀ id ∈ l, id ∈ os.map (·.id)
  | [], L, _, id, h => by cases h
  | x :: l, L, h, id, hid => by
    simp only [pick] at h
    split at h
    · cases h
    rename_i i hi
    split at h
    · cases h
    cases hp : pick os l with
    | none => rw [hp] at h; cases h
    | some L2 =>
      rcases List.mem_cons.1 hid with rfl | hid
      · obtain ⟨o, h1, h2⟩ := fndO_some hi
        exact List.mem_map.2 ⟨o, List.mem_of_getElem? h1, h2⟩
      · exact pick_all hp id hid
theorem pick_nodup {os : List Od} {l : List Int} {L : List Od} (h : pick os l = some L) (hn : l.Nodup) : l.length ≤ os.length := by
  have := sub_len hn (pick_all h)
  simpa using this
theorem inP_bounds {w : Wd} (hA : areaB w.n w.D w.T = true) {L : List Od} (hL : ∀ o ∈ L, 0 ≤ o.nd ∧ o.nd < w.n) {i : Nat} {o : Od} (ho : 0 ≤ o.nd ∧ o.nd < w.n) : 0 ≤ inP w L i o ∧ inP w L i o ≤ 1000000 := by
  refine lea_bounds (by omega) fun n hn => ?_
  obtain ⟨f, hf, rfl⟩ := List.mem_map.1 hn
  have hf2 : 0 ≤ f ∧ f < w.n := by
    rcases List.mem_cons.1 hf with rfl | hf
    · exact ⟨by omega, by have := areaB_n hA; omega⟩
    · obtain ⟨o2, h1, rfl⟩ := List.mem_map.1 hf
      exact hL o2 (List.mem_of_mem_eraseIdx h1)
  obtain ⟨_, _, _, _, _, _, _, _, _, _, _, _, _, _, b, _⟩ := lg_get hA hf2 ho
  exact ⟨b.1, b.2.1⟩
theorem inF_bounds {w : Wd} (hA : areaB w.n w.D w.T = true) {L : List Od} (hL : ∀ o ∈ L, 0 ≤ o.nd ∧ o.nd < w.n) (m : Nat) : ∀ n ∈ inF w L m, 0 ≤ n ∧ n ≤ 1000000 := by
  intro n hn
  obtain ⟨q, hq, rfl⟩ := List.mem_map.1 hn
  have := List.mem_zipIdx (List.mem_of_mem_take hq)
  exact inP_bounds hA hL (hL _ (by rw [this.2.2]; exact List.getElem_mem _))
theorem leaNd_bounds {w : Wd} (hA : areaB w.n w.D w.T = true) {L : List Od} (hL : ∀ o ∈ L, 0 ≤ o.nd ∧ o.nd < w.n) : 0 ≤ leaNd w L ∧ leaNd w L ≤ 1000000 := by
  refine lea_bounds (by omega) fun n hn => ?_
  obtain ⟨o, ho, rfl⟩ := List.mem_map.1 hn
  obtain ⟨_, _, _, _, _, _, _, _, _, _, _, _, _, _, b, _⟩ := lg_get hA (hL o ho) (t := 0) ⟨by omega, by have := areaB_n hA; omega⟩
  exact ⟨b.1, b.2.1⟩
theorem ra_bounds {w : Wd} (h : w.ok) : 0 ≤ lea (w.ts.map (·.ra)) ∧ lea (w.ts.map (·.ra)) ≤ 1000 := lea_bounds (by omega) fun n hn => by
  obtain ⟨t, ht, rfl⟩ := List.mem_map.1 hn
  have := trkB_iff.1 (h.ts t ht); omega
theorem fx_bounds {w : Wd} (h : w.ok) : 0 ≤ lea (w.ts.map (·.fx)) ∧ lea (w.ts.map (·.fx)) ≤ 1000000 := lea_bounds (by omega) fun n hn => by
  obtain ⟨t, ht, rfl⟩ := List.mem_map.1 hn
  have := trkB_iff.1 (h.ts t ht); omega
/-- A certificate, or why there is none. -/
def resC (x : Option Ct × Int) (r : V) (ob : List Ob) : Prop := match x with
  | (none, e) => r = .tup [.agg [.nils, .nils, .int .i64 0, .int .i64 0, .int .i64 0, .int .i64 0], .int .i64 e] ∧ ob = []
  | (some c, e) => r = .tup [.agg [.sl 0 c.ids.length 1 0 c.ids.length, .sl 1 c.inn.length 1 0 c.inn.length, .int .i64 c.ba, .int .i64 c.ra, .int .i64 c.fx, .int .i64 c.bo], .int .i64 e] ∧ ob = [.live (ints c.ids), .live (ints c.inn)]
theorem make_spec (w : Wd) (ho : w.os.length < 1099511627776) (ht : w.ts.length < 1099511627776) (ids : List Int) (hi : ids.length < 1099511627776) : VC P 13 [.agg w.c, sI ids] [] (fun r ob' => resC (makeP w ids) r ob') := by
  refine VC_of_vwp_c hT ent_13 Try.func13 rfl (by simp) fun R hR => ?_
  refine vwp_sq [0, 1] fun K1 hK1 => vwp_region hT ?_
  simp
  refine hK1 _ ?_
  try clear hK1 K1
  refine vwp_seq_k fun K2 hK2 => ?_
  refine vwp_sq [1, 2, 4] fun K3 hK3 => vwp_region hT ?_
  simp
  refine vcall_z [] (rworld_spec w ho ht) (by rintro r ob' ⟨rfl, rfl⟩; simp) ?_
  rintro r ob' ⟨rfl, rfl⟩
  simp
  refine hK3 _ ?_
  try clear hK3 K3
  refine vwp_sq [1, 2, 4, 6] fun K4 hK4 => vwp_region hT ?_
  simp
  refine hK4 _ ?_
  try clear hK4 K4
  refine vwp_cond (by first | rfl | (simp; rfl)) (fun h1 => ?_) fun h1 => ?_
  · simp -failIfUnchanged at h1; all_goals
   have he := h1
   refine vwp_sq [4, 6] fun K5 hK5 => vwp_region hT ?_
   simp
   repeat refine ⟨by first | assumption | omega | (intros; omega), ?_⟩
   refine hK5 _ ?_
   try clear hK5 K5
   refine vwp_ret (hR _ _ ?_)
   have hw : makeP w ids = (none, w.e) := by
     unfold makeP; rw [if_pos he]
   rw [hw]
   exact retc_only [] [] (p := True) (xs := [.agg [.nils, .nils, .int .i64 0, .int .i64 0, .int .i64 0, .int .i64 0], .int .i64 (w.e)]) (xs' := [.agg [.nils, .nils, .int .i64 0, .int .i64 0, .int .i64 0, .int .i64 0], .int .i64 (w.e)]) (by simp) trivial (by simp) (by simp) rfl (by simp) (by simp) rfl (by simp) ⟨rfl, rfl⟩
  · simp -failIfUnchanged at h1; all_goals
   have he : w.e = 0 := by simpa using h1
   have hok := Wd.e_zero.1 he
   have hA := hok.A
   refine vwp_skip ?_
   refine hK2 _ ?_
   try clear hK2 K2
   refine vwp_cut_s (fun S : List Int => ⟨[(1, sI ids), (2, .ptr 0 5 0), (4, .ptr 1 6 0), (7, .ptr 3 6 0)], [.live w.c, .live [.nils, .nils, .int .i64 0, .int .i64 0, .int .i64 0, .int .i64 0], .live (ints S), .live [.sl 2 S.length 1 0 S.length, .nils, .int .i64 (0), .int .i64 (0), .int .i64 (0), .int .i64 (0)]]⟩) (fun S => S = srt ids) (fun K6 hK6 => ?_) ?_
   · refine vwp_live [1, 2, 4] (vwp_region hT ?_)
     simp
     repeat refine ⟨by first | assumption | omega | (intros; omega), ?_⟩
     refine vcall_k [] (values_spec ids) ?_
     rintro r ob' ⟨rfl, rfl⟩
     simp
     repeat refine ⟨by first | assumption | omega | (intros; omega), ?_⟩
     refine vcall_k [2] (sorted_spec ids hi) ?_
     rintro r ob' ⟨rfl, rfl⟩
     simp
     repeat refine ⟨by first | assumption | omega | (intros; omega), ?_⟩
     exact hK6 ((srt ids)) _ (Gh.to_k [1, 2, 4, 7] [0, 1, 3, 4] (he := by simp [srt_len]) (hh := by simp [srt_len])) (rfl)
   · rintro S hS
     have hsl := srt_len ids
     have hadj := adjB_srt ids
     rw [← hS] at hsl hadj
     refine vwp_seq_k fun K7 hK7 => ?_
     have htk : List.take S.length (ints S) = ints S := List.take_of_length_le (by simp)
     refine vwp_sq [1, 2, 4, 7] fun K8 hK8 => vwp_region hT ?_
     simp
     refine vcall_z [] (clone_spec S (by omega)) (by rintro r ob' ⟨rfl, rfl⟩; simp) ?_ (ha := by simp [htk]) (hok := by simp)
     rintro r ob' ⟨rfl, rfl⟩
     simp
     refine vcall_k [4] (compact_spec S (by omega)) ?_
     rintro r ob' ⟨m, cs, rfl, rfl, hcl, hm2⟩
     simp
     refine ⟨hcl, ?_⟩
     refine hK8 _ ?_
     try clear hK8 K8
     refine vwp_cond (by first | rfl | (simp; rfl)) (fun h2 => ?_) fun h2 => ?_
     · simp -failIfUnchanged at h2; all_goals
      have q := h2
      have hdp : dupB ids = true := by rw [← hadj]; exact hm2.1 (by omega)
      refine vwp_sq [4] fun K9 hK9 => vwp_region hT ?_
      simp
      repeat refine ⟨by first | assumption | omega | (intros; omega), ?_⟩
      refine hK9 _ ?_
      try clear hK9 K9
      refine vwp_ret (hR _ _ ?_)
      have hw : makeP w ids = (none, 6) := by
        unfold makeP; rw [if_neg (by simp [he]), if_pos hdp]
      rw [hw]
      exact retc_only [] [] (p := True) (xs := [.agg [.nils, .nils, .int .i64 0, .int .i64 0, .int .i64 0, .int .i64 0], .int .i64 (6)]) (xs' := [.agg [.nils, .nils, .int .i64 0, .int .i64 0, .int .i64 0, .int .i64 0], .int .i64 (6)]) (by simp) trivial (by simp) (by simp) rfl (by simp) (by simp) rfl (by simp) ⟨rfl, rfl⟩
     · simp -failIfUnchanged at h2; all_goals
      have q := h2
      have hdp : ¬ dupB ids = true := by rw [← hadj]; intro k; have := hm2.2 k; omega
      have hmk : makeP w ids = match pick w.os S with
          | none => (none, 5)
          | some L => (some (mkC w S L), 0) := by unfold makeP; rw [if_neg (by simp [he]), if_neg hdp, ← hS]
      refine vwp_skip ?_
      refine hK7 _ ?_
      try clear hK7 K7
      refine vwp_sq [2, 4, 7] fun K10 hK10 => vwp_region hT ?_
      simp
      refine hK10 _ ?_
      try clear hK10 K10
      refine vwp_seq_k fun K11 hK11 => ?_
      refine vwp_sq [2, 4, 7, 8] fun K12 hK12 => vwp_region hT ?_
      simp
      refine hK12 _ ?_
      try clear hK12 K12
      refine vwp_block ?_
      refine vwp_loop_s (fun u : KD => ⟨[(2, .ptr 0 5 0), (4, .ptr 1 6 0), (7, .ptr 3 6 0), (8, .sl 4 (u.L.length * 8) 8 0 u.L.length), (33, .sl 2 S.length 1 0 S.length), (34, .int .i64 S.length), (35, .int .i64 (u.i : Int))], [.live w.c, .live [.nils, .nils, .int .i64 0, .int .i64 0, .int .i64 0, .int .i64 0], .live (ints S), .live [.sl 2 S.length 1 0 S.length, .nils, .int .i64 (0), .int .i64 (0), .int .i64 (0), .int .i64 (0)], .live (rowsV u.L)]⟩) (fun u => u.i ≤ S.length ∧ pick w.os (S.take u.i) = some u.L) (fun u => S.length - u.i) (⟨0, []⟩) ((Gh.virt 8 8 (by simp)).trans (Gh.to_k [2, 4, 7, 8, 33, 34, 35] [0, 1, 2, 3, 5])) (⟨by simp, rfl⟩) ?_
      rintro ⟨i, L⟩ ⟨hi2, hL⟩
      dsimp only at hi2 hL ⊢
      have hLl := (pick_len _ hL).1
      rw [List.length_take, Nat.min_eq_left hi2] at hLl
      have hrl := lenOd L
      intro K13 hK13
      refine vwp_sq [2, 4, 7, 8, 33, 34, 35] fun K14 hK14 => vwp_region hT ?_
      simp
      refine hK14 _ ?_
      try clear hK14 K14
      refine vwp_seq_k fun K15 hK15 => ?_
      refine vwp_cond (by first | rfl | (simp; rfl)) (fun h3 => ?_) fun h3 => ?_
      · simp -failIfUnchanged at h3; all_goals
       refine vwp_skip ?_
       refine hK15 _ ?_
       try clear hK15 K15
       refine vwp_seq_k fun K16 hK16 => ?_
       refine vwp_block ?_
       obtain ⟨id, hid⟩ := getI (l := S) (i := i) (by omega)
       refine vwp_sq [2, 4, 7, 8, 33, 34, 35] fun K17 hK17 => vwp_region hT ?_
       simp [hid]
       repeat refine ⟨by first | assumption | omega | (intros; omega), ?_⟩
       refine hK17 _ ?_
       try clear hK17 K17
       refine vwp_sq [2, 4, 7, 8, 10, 33, 34, 35] fun K18 hK18 => vwp_region hT ?_
       simp
       refine vcall_z [] (find_spec w.os ho id) (by rintro r ob' ⟨rfl, rfl⟩; simp) ?_
       rintro r ob' ⟨rfl, rfl⟩
       simp
       refine hK18 _ ?_
       try clear hK18 K18
       refine vwp_seq_k fun K19 hK19 => ?_
       refine vwp_seq_k fun K20 hK20 => ?_
       rcases hf : fndO w.os id with _ | q
       · refine vwp_live [2, 4, 7, 8, 11, 33, 34, 35] (vwp_region hT ?_)
         simp [hf, oI]
         refine hK20 _ ?_
         try clear hK20 K20
         refine vwp_cond (by first | rfl | (simp; rfl)) (fun h4 => ?_) fun h4 => ?_
         · simp -failIfUnchanged at h4; all_goals
          refine vwp_sq [4] fun K21 hK21 => vwp_region hT ?_
          simp
          repeat refine ⟨by first | assumption | omega | (intros; omega), ?_⟩
          refine hK21 _ ?_
          try clear hK21 K21
          refine vwp_ret (hR _ _ ?_)
          have hw : makeP w ids = (none, 5) := by
            rw [hmk, split_at hid, pick_none _ hf]
          rw [hw]
          exact retc_only [] [] (p := True) (xs := [.agg [.nils, .nils, .int .i64 0, .int .i64 0, .int .i64 0, .int .i64 0], .int .i64 (5)]) (xs' := [.agg [.nils, .nils, .int .i64 0, .int .i64 0, .int .i64 0, .int .i64 0], .int .i64 (5)]) (by simp) trivial (by simp) (by simp) rfl (by simp) (by simp) rfl (by simp) ⟨rfl, rfl⟩
         · simp -failIfUnchanged at h4; all_goals
          refine vwp_skip ?_
          refine hK19 _ ?_
          try clear hK19 K19
          simp_all
       · obtain ⟨o, ho2, hoid⟩ := fndO_some hf
         have hqn : ¬ ((q : Int) < 0) := by omega
         have hrow2 := rowOd ho2
         have hleno := lenOd w.os
         have hql := (List.getElem?_eq_some_iff.1 ho2).1
         refine vwp_live [2, 4, 7, 8, 11, 33, 34, 35] (vwp_region hT ?_)
         simp [hf, oI, hqn]
         refine hK20 _ ?_
         try clear hK20 K20
         refine vwp_cond (by first | rfl | (simp; rfl)) (fun h5 => ?_) fun h5 => ?_
         · simp -failIfUnchanged at h5; all_goals
          refine vwp_seq_k fun K22 hK22 => ?_
          simp_all
         · simp -failIfUnchanged at h5; all_goals
          refine vwp_skip ?_
          refine hK19 _ ?_
          try clear hK19 K19
          refine vwp_live [2, 4, 7, 8, 11, 33, 34, 35] (vwp_region hT ?_)
          simp [hf, oI, hrow2, hleno, hrl, zerosV, spl]
          repeat refine ⟨by first | assumption | omega | (intros; omega), ?_⟩
          refine hK16 _ ?_
          try clear hK16 K16
          have w1 : IntKind.i64.wrap ((i : Int) + 1) = i + 1 := w64 (by omega) (by omega)
          refine vwp_live [2, 4, 7, 8, 33, 34, 35] (vwp_region hT ?_)
          simp [w1]
          exact hK13 (⟨i + 1, L ++ [o]⟩) _ (Gh.to_k [2, 4, 7, 8, 33, 34, 35] [0, 1, 2, 3, 4] (he := by simp) (hh := by simp [rowsV_snoc])) (⟨by dsimp only; omega, by dsimp only; rw [take_snoc hid]; exact pick_snoc _ hL hf ho2⟩) (by dsimp only; omega)
      · simp -failIfUnchanged at h3; all_goals
       refine vwp_exit ?_
       simp only [inBlk, thenQ, if_true]
       refine hK11 _ ?_
       try clear hK11 K11
       refine vwp_seq_k fun K23 hK23 => ?_
       refine vwp_seq_k fun K24 hK24 => ?_
       obtain rfl : i = S.length := by omega
       rw [List.take_length] at hL
       have hdn : S.Nodup := by
         have h0 : ids.Nodup := by simpa [dupB] using hdp
         rw [hS]; exact (srt_perm ids).nodup_iff.2 h0
       have hl12 := pick_nodup hL hdn
       have ho12 := hok.o12
       have hLo : ∀ o ∈ L, ordB w.n o = true := fun o ho => hok.os o ((pick_len _ hL).2 o ho)
       have hLn : ∀ o ∈ L, 0 ≤ o.nd ∧ o.nd < w.n := fun o ho => by have := ordB_iff.1 (hLo o ho); omega
       rw [hL] at hmk
       rcases L with _ | ⟨o0, L0⟩
       · obtain rfl : S = [] := List.length_eq_zero_iff.1 (by simpa using hLl.symm)
         refine vwp_live [2, 4, 7, 8] (vwp_region hT ?_)
         simp
         refine hK24 _ ?_
         try clear hK24 K24
         refine vwp_cond (by first | rfl | (simp; rfl)) (fun h6 => ?_) fun h6 => ?_
         · simp -failIfUnchanged at h6; all_goals
          refine vwp_gh (Gh.virtC 3 1 1 rfl rfl) ?_
          simp
          refine vwp_sq [4, 7] fun K25 hK25 => vwp_region hT ?_
          simp
          repeat refine ⟨by first | assumption | omega | (intros; omega), ?_⟩
          refine hK25 _ ?_
          try clear hK25 K25
          refine vwp_ret (hR _ _ ?_)
          have hw : makeP w ids = (some ⟨[], [], 0, 0, 0, 0⟩, 0) := hmk
          rw [hw]
          exact retc_only [2, 5] [.live [], .live []] (p := True) (xs := [.agg [.sl 2 0 1 0 0, .sl 5 0 1 0 0, .int .i64 0, .int .i64 0, .int .i64 0, .int .i64 0], .int .i64 0]) (xs' := [.agg [.sl 0 0 1 0 0, .sl 1 0 1 0 0, .int .i64 0, .int .i64 0, .int .i64 0, .int .i64 0], .int .i64 0]) (by simp) trivial (by simp) (by simp) rfl (by simp) (by simp) rfl (by simp) ⟨rfl, rfl⟩
         · simp -failIfUnchanged at h6; all_goals
          refine vwp_skip ?_
          refine hK23 _ ?_
          try clear hK23 K23
          refine vwp_seq_k fun K26 hK26 => ?_
          refine vwp_seq_k fun K27 hK27 => ?_
          simp_all
       · obtain ⟨L, hLe⟩ : ∃ L, L = o0 :: L0 := ⟨_, rfl⟩
         have hLne : L ≠ [] := by rw [hLe]; simp
         rw [← hLe] at hmk hLo hLn hrl hLl ⊢
         have hL1 : 1 ≤ L.length := by rw [hLe]; simp
         have hL0 : ¬ (L.length : Int) = 0 := by omega
         have htl : List.take (L.length * 8) (rowsV L) = rowsV L := List.take_of_length_le (by omega)
         have hokL : ∀ c ∈ rowsV L, V.noId c = true := fun c hc => by obtain ⟨n, rfl⟩ := odC hc; rfl
         refine vwp_live [2, 4, 7, 8] (vwp_region hT ?_)
         simp [hrl, hL0, hLne]
         refine hK24 _ ?_
         try clear hK24 K24
         refine vwp_cond (by first | rfl | (simp; rfl)) (fun h7 => ?_) fun h7 => ?_
         · simp -failIfUnchanged at h7; all_goals
          refine vwp_seq_k fun K28 hK28 => ?_
          simp_all
         · simp -failIfUnchanged at h7; all_goals
          refine vwp_skip ?_
          refine hK23 _ ?_
          try clear hK23 K23
          refine vwp_seq_k fun K29 hK29 => ?_
          refine vwp_sq [2, 4, 7, 8] fun K30 hK30 => vwp_region hT ?_
          simp [hrl]
          refine hK30 _ ?_
          try clear hK30 K30
          refine vwp_block ?_
          refine vwp_gh (Gh.virtC 3 1 1 rfl rfl) ?_
          simp
          refine vwp_loop_s (fun i : Nat => ⟨[(2, .ptr 0 5 0), (4, .ptr 1 6 0), (7, .ptr 3 6 0), (8, .sl 4 (L.length * 8) 8 0 L.length), (60, .int .i64 L.length), (61, .int .i64 (i : Int))], [.live w.c, .live [.nils, .nils, .int .i64 0, .int .i64 0, .int .i64 0, .int .i64 0], .live (ints S), .live [.sl 2 S.length 1 0 S.length, .sl 5 (inF w L i).length 1 0 (inF w L i).length, .int .i64 (0), .int .i64 (0), .int .i64 (0), .int .i64 (0)], .live (rowsV L), .live (ints (inF w L i))]⟩) (fun i => i ≤ L.length) (fun i => L.length - i) (0) (Gh.to_k [2, 4, 7, 8, 60, 61] [0, 1, 2, 3, 4, 5] (he := by simp [inF]) (hh := by simp [inF])) (by omega) ?_
          rintro i hi3
          have hfl := inF_len w L i hi3
          intro K31 hK31
          refine vwp_sq [2, 4, 7, 8, 60, 61] fun K32 hK32 => vwp_region hT ?_
          simp
          refine hK32 _ ?_
          try clear hK32 K32
          refine vwp_seq_k fun K33 hK33 => ?_
          refine vwp_cond (by first | rfl | (simp; rfl)) (fun h8 => ?_) fun h8 => ?_
          · simp -failIfUnchanged at h8; all_goals
           refine vwp_skip ?_
           refine hK33 _ ?_
           try clear hK33 K33
           refine vwp_seq_k fun K34 hK34 => ?_
           refine vwp_block ?_
           refine vwp_sq [2, 4, 7, 8, 60, 61] fun K35 hK35 => vwp_region hT ?_
           simp
           refine hK35 _ ?_
           try clear hK35 K35
           obtain ⟨o, ho3⟩ := getI (l := L) (i := i) (by omega)
           refine vwp_live [2, 4, 7, 8, 12, 60, 61] (vwp_storm hT hm [.win 0 1, .win 0 1, .win 0 0, .win 0 0, .pure, .pure, .mv, .lit, .mv, .win 2 2, .mv] [[], [0], [], [2], [], [], [2, 3, 4, 5], [2, 3, 4, 5, 6], [0, 1, 2, 3, 4, 5, 6, 7], [0, 1, 2, 3, 4, 5, 6, 7, 8], [0, 1, 2, 3, 4, 5, 6, 7, 8, 9]] (by kernel_rfl) ?_)
           simp [hfl]
           repeat refine ⟨by first | assumption | omega | (intros; omega), ?_⟩
           refine ⟨.int .i64 (inP w L i o), [.live w.c, .live [.nils, .nils, .int .i64 0, .int .i64 0, .int .i64 0, .int .i64 0], .live (ints S), .live [.sl 2 S.length 1 0 S.length, .sl 5 i 1 0 i, .int .i64 (0), .int .i64 (0), .int .i64 (0), .int .i64 (0)], .live (rowsV L), .live (ints (inF w L i))], fun sl => ?_, ?_⟩
           · refine vcall_z [] (in_bspec w hA L (by omega) hLn i o ho3) (by rintro r ob' ⟨rfl, rfl⟩; simp) ?_ (ha := by simp [htl]) (hok := by simp [hrl]; exact hokL)
             rintro r ob' ⟨rfl, rfl⟩
             simp
           simp [hfl]
           repeat refine ⟨by first | assumption | omega | (intros; omega), ?_⟩
           refine hK34 _ ?_
           try clear hK34 K34
           have w1 : IntKind.i64.wrap ((i : Int) + 1) = i + 1 := w64 (by omega) (by omega)
           refine vwp_live [2, 4, 7, 8, 60, 61] (vwp_region hT ?_)
           simp [w1]
           exact hK31 (i + 1) _ (Gh.to_k [2, 4, 7, 8, 60, 61] [0, 1, 2, 3, 4, 5] (he := by simp) (hh := by simp [inF_step ho3, hfl])) (by omega) (by omega)
          · simp -failIfUnchanged at h8; all_goals
           refine vwp_exit ?_
           simp only [inBlk, thenQ, if_true]
           refine hK29 _ ?_
           try clear hK29 K29
           obtain rfl : i = L.length := by omega
           have hb1 := inF_bounds hA hLn L.length
           have hb2 := leaNd_bounds hA hLn
           have hb3 := ra_bounds hok
           have hb4 := fx_bounds hok
           obtain ⟨In, hIn⟩ : ∃ In, In = inF w L L.length := ⟨_, rfl⟩
           rw [← hIn] at hfl hb1
           rw [← hIn]
           have e1 : lea (L.map fun s => lg w.n w.D s.nd 0) = leaNd w L := rfl
           refine vwp_sq [2, 4, 7, 8] fun K36 hK36 => vwp_region hT ?_
           simp [e1]
           repeat refine ⟨by first | assumption | omega | (intros; omega), ?_⟩
           refine vcall_z [] (least_ba L (by omega) w hA hLn) (by rintro r ob' ⟨rfl, rfl⟩; simp) ?_ (ha := by simp [htl]) (hok := by simp [hrl]; exact hokL)
           rintro r ob' ⟨rfl, rfl⟩
           simp [e1]
           repeat refine ⟨by first | assumption | omega | (intros; omega), ?_⟩
           refine hK36 _ ?_
           try clear hK36 K36
           refine vwp_sq [2, 4, 7] fun K37 hK37 => vwp_region hT ?_
           simp
           repeat refine ⟨by first | assumption | omega | (intros; omega), ?_⟩
           refine vcall_z [] (least_ra w.ts ht) (by rintro r ob' ⟨rfl, rfl⟩; simp) ?_
           rintro r ob' ⟨rfl, rfl⟩
           simp
           repeat refine ⟨by first | assumption | omega | (intros; omega), ?_⟩
           refine hK37 _ ?_
           try clear hK37 K37
           refine vwp_sq [2, 4, 7] fun K38 hK38 => vwp_region hT ?_
           simp
           repeat refine ⟨by first | assumption | omega | (intros; omega), ?_⟩
           refine vcall_z [] (least_fx w.ts ht) (by rintro r ob' ⟨rfl, rfl⟩; simp) ?_
           rintro r ob' ⟨rfl, rfl⟩
           simp
           repeat refine ⟨by first | assumption | omega | (intros; omega), ?_⟩
           refine hK38 _ ?_
           try clear hK38 K38
           have htI : List.take In.length (ints In) = ints In := List.take_of_length_le (by simp)
           obtain ⟨ba, hba⟩ : ∃ ba, ba = leaNd w L := ⟨_, rfl⟩
           obtain ⟨ra, hra⟩ : ∃ ra, ra = lea (w.ts.map fun s => s.ra) := ⟨_, rfl⟩
           obtain ⟨fx, hfx⟩ : ∃ fx, fx = lea (w.ts.map fun s => s.fx) := ⟨_, rfl⟩
           rw [← hba] at hb2
           rw [← hra] at hb3
           rw [← hfx] at hb4
           rw [← hba, ← hra, ← hfx]
           have hfine : (⟨S, In, ba, ra, fx, 0⟩ : Ct).fine := ⟨by dsimp only; omega, hb1, hb2, hb3, hb4⟩
           refine vwp_sq [4, 7] fun K39 hK39 => vwp_region hT ?_
           simp
           repeat refine ⟨by first | assumption | omega | (intros; omega), ?_⟩
           refine vcall_z [] (worth_spec ⟨S, In, ba, ra, fx, 0⟩ hfine) (by rintro r ob' ⟨rfl, rfl⟩; simp) ?_ (ha := by simp [htk, htI]) (hok := by simp)
           rintro r ob' ⟨rfl, rfl⟩
           simp
           repeat refine ⟨by first | assumption | omega | (intros; omega), ?_⟩
           refine hK39 _ ?_
           try clear hK39 K39
           refine vwp_sq [4, 7] fun K40 hK40 => vwp_region hT ?_
           simp
           repeat refine ⟨by first | assumption | omega | (intros; omega), ?_⟩
           refine hK40 _ ?_
           try clear hK40 K40
           refine vwp_ret (hR _ _ ?_)
           have hw : makeP w ids = (some ⟨S, In, ba, ra, fx, fx + ra * (In.sum + ba)⟩, 0) := by
             rw [hmk]
             simp only [mkC]
             rw [if_neg hLne, ← hIn, ← hba, ← hra, ← hfx]
           rw [hw]
           have hwo : (⟨S, In, ba, ra, fx, 0⟩ : Ct).worth = fx + ra * (In.sum + ba) := rfl
           rw [hwo]
           exact retc_only [2, 5] [.live (ints S), .live (ints In)] (p := True) (xs := [.agg [.sl 2 S.length 1 0 S.length, .sl 5 In.length 1 0 In.length, .int .i64 ba, .int .i64 ra, .int .i64 fx, .int .i64 (fx + ra * (In.sum + ba))], .int .i64 0]) (xs' := [.agg [.sl 0 S.length 1 0 S.length, .sl 1 In.length 1 0 In.length, .int .i64 ba, .int .i64 ra, .int .i64 fx, .int .i64 (fx + ra * (In.sum + ba))], .int .i64 0]) (by simp) trivial (by simp) (by simp) rfl (by simp) (by simp) rfl (by simp) ⟨rfl, rfl⟩
end Go.Proofs.Ytinigjmfjabicaa
