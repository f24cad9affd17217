/- Orders of a route; a trip's steps: the walk. -/
import Derived.Test.YtinigjmfjabicaaPlJ
namespace Go.Proofs.Ytinigjmfjabicaa
open Go Go.VX Go.RowKit
set_option linter.unusedVariables false
set_option linter.unusedSimpArgs false
set_option maxHeartbeats 20000000
set_option maxRecDepth 100000

/-- The orders of some numbers, or none, if one of them isn't there. -/
def pick (os : List Od) : List Int → Option (List Od)
  | [] => some []
  | id :: r => match fndO os id with
    | none => none
    | some i => match os[i]? with
      | none => none
      | some o => (pick os r).map (o :: ·)
theorem pick_snoc {os : List Od} : ∀ (l : List Int) {x : Int} {i : Nat} {o : Od} {L : List Od}, pick os l = some L → fndO os x = some i → os[i]? = some o → pick os (l ++ [x]) = some (L ++ [o])
  | [], x, i, o, L, h, h1, h2 => by simp [pick] at h; subst h; simp [pick, h1, h2]
  | y :: l, x, i, o, L, h, h1, h2 => by
    simp only [List.cons_append, pick] at h ⊢
    split at h
    · cases h
    split at h
    · cases h
    cases hp : pick os l with
    | none => rw [hp] at h; cases h
    | some L2 =>
      rw [hp] at h
      simp at h
      subst h
      rw [pick_snoc l hp h1 h2]
      simp
theorem pick_none {os : List Od} : ∀ (l : List Int) {x : Int} {r : List Int}, fndO os x = none → pick os (l ++ x :: r) = none
  | [], x, r, h => by simp [pick, h]
  | y :: l, x, r, h => by
    simp only [List.cons_append, pick, pick_none l h]
    split
    · rfl
    split <;> rfl
theorem pick_len {os : List Od} : ∀ (l : List Int) {L : List Od}, pick os l = some L → L.length = l.length ∧ ∀ o ∈ L, o ∈ os
  | [], L, h => by simp [pick] at h; subst h; simp
  | y :: l, L, h => by
    simp only [pick] at h
    split at h
    · cases h
    split at h
    · cases h
    rename_i o2 ho2
    cases hp : pick os l with
    | none => rw [hp] at h; cases h
    | some L2 =>
      rw [hp] at h
      simp at h
      subst h
      obtain ⟨h1, h2⟩ := pick_len l hp
      refine ⟨by simp [h1], fun o ho => ?_⟩
      rcases List.mem_cons.1 ho with rfl | ho
      · exact List.mem_of_getElem? ho2
      · exact h2 o ho
theorem split_at {α : Type} {l : List α} {i : Nat} {x : α} (h : l[i]? = some x) : l = l.take i ++ x :: l.drop (i + 1) := by
  obtain ⟨h1, h2⟩ := List.getElem?_eq_some_iff.1 h
  have := List.take_append_drop i l
  rw [List.drop_eq_getElem_cons h1, h2] at this
  exact this.symm
def ordsP (os : List Od) (st : List Int) : Option (List Od) × Int := match pick os st with
  | none => (none, 5)
  | some L => if st.Nodup then (some L, 0) else (none, 6)
/-- Rows, or why there are none. -/
def resO (x : Option (List Od) × Int) (r : V) (ob : List Ob) : Prop := match x with
  | (none, e) => r = .tup [.nils, .int .i64 e] ∧ ob = []
  | (some l, e) => r = .tup [.sl 0 (l.length * 8) 8 0 l.length, .int .i64 e] ∧ ob = [.live (rowsV l)]
structure KO where (i : Nat) (K : List Int) (bs : List Nat) (ck : Nat) (L : List Od)
theorem orders_spec (w : Wd) (ho : w.os.length < 1099511627776) (st : List Int) (hst : st.length < 1099511627776) (hne : st ≠ []) : VC P 65 [.agg w.c, sI st] [] (fun r ob' => resO (ordsP w.os st) r ob') := by
  refine VC_of_vwp_k ent_65 Try.func65 rfl (by simp) fun R hR => ?_
  refine vwp_sq [0, 1] fun K1 hK1 => vwp_region hT ?_
  simp
  refine hK1 _ ?_
  try clear hK1 K1
  refine vwp_sq [1, 2] fun K2 hK2 => vwp_region hT ?_
  simp
  refine hK2 _ ?_
  try clear hK2 K2
  refine vwp_sq [1, 2, 6] fun K3 hK3 => vwp_region hT ?_
  simp
  refine hK3 _ ?_
  try clear hK3 K3
  refine vwp_seq_k fun K4 hK4 => ?_
  refine vwp_sq [1, 2, 6, 7] fun K5 hK5 => vwp_region hT ?_
  simp
  refine hK5 _ ?_
  try clear hK5 K5
  refine vwp_block ?_
  refine vwp_loop_s (fun u : KO => ⟨[(1, sI st), (2, .ptr 0 5 0), (6, .sl 2 (u.L.length * 8) 8 0 u.L.length), (7, .mp 1), (12, sI st), (13, .int .i64 st.length), (14, .int .i64 (u.i : Int))], [.live w.c, .map (setE u.K) u.bs u.ck, .live (rowsV u.L)]⟩) (fun u => u.i ≤ st.length ∧ SetOf (st.take u.i) u.K ∧ pick w.os (st.take u.i) = some u.L) (fun u => st.length - u.i) (⟨0, [], [], 0, []⟩) ((Gh.virt 6 8 (by simp)).trans (Gh.to_k [1, 2, 6, 7, 12, 13, 14] [0, 1, 2])) (⟨by simp, SetOf.nil, rfl⟩) ?_
  rintro ⟨i, K, bs, ck, L⟩ ⟨hi, hK, hL⟩
  dsimp only at hi hK hL ⊢
  have hLl := (pick_len _ hL).1
  rw [List.length_take, Nat.min_eq_left hi] at hLl
  intro K6 hK6
  refine vwp_sq [1, 2, 6, 7, 12, 13, 14] fun K7 hK7 => vwp_region hT ?_
  simp
  refine hK7 _ ?_
  try clear hK7 K7
  refine vwp_seq_k fun K8 hK8 => ?_
  refine vwp_cond (by first | rfl | (simp; rfl)) (fun h1 => ?_) fun h1 => ?_
  · simp -failIfUnchanged at h1; all_goals
   refine vwp_skip ?_
   refine hK8 _ ?_
   try clear hK8 K8
   refine vwp_seq_k fun K9 hK9 => ?_
   refine vwp_block ?_
   obtain ⟨id, hid⟩ := getI (l := st) (i := i) (by omega)
   refine vwp_sq [1, 2, 6, 7, 12, 13, 14] fun K10 hK10 => vwp_region hT ?_
   simp [hid]
   repeat refine ⟨by first | assumption | omega | (intros; omega), ?_⟩
   refine hK10 _ ?_
   try clear hK10 K10
   refine vwp_sq [1, 2, 6, 7, 9, 12, 13, 14] fun K11 hK11 => vwp_region hT ?_
   simp
   refine vcall_z [] (find_spec w.os ho id) (by rintro r ob' ⟨rfl, rfl⟩; simp) ?_
   rintro r ob' ⟨rfl, rfl⟩
   simp
   refine hK11 _ ?_
   try clear hK11 K11
   refine vwp_seq_k fun K12 hK12 => ?_
   refine vwp_seq_k fun K13 hK13 => ?_
   rcases hf : fndO w.os id with _ | p
   · refine vwp_live [1, 2, 6, 7, 9, 10, 12, 13, 14] (vwp_region hT ?_)
     simp [hf, oI]
     refine hK13 _ ?_
     try clear hK13 K13
     refine vwp_cond (by first | rfl | (simp; rfl)) (fun h2 => ?_) fun h2 => ?_
     · simp -failIfUnchanged at h2; all_goals
      refine vwp_sq [] fun K14 hK14 => vwp_region hT ?_
      simp
      refine hK14 _ ?_
      try clear hK14 K14
      refine vwp_ret (hR _ _ ?_)
      have hw : ordsP w.os st = (none, 5) := by
        unfold ordsP
        rw [split_at hid, pick_none _ hf]
      rw [hw]
      exact ret_k [4, 5] [] ([]) (.tup [.nils, .int .i64 5]) (⟨rfl, rfl⟩)
     · simp -failIfUnchanged at h2; all_goals
      refine vwp_skip ?_
      refine hK12 _ ?_
      try clear hK12 K12
      refine vwp_seq_k fun K15 hK15 => ?_
      simp_all
   · obtain ⟨o, ho2, hoid⟩ := fndO_some hf
     have hrow := rowOd ho2
     have hlen := lenOd w.os
     have hpl := (List.getElem?_eq_some_iff.1 ho2).1
     have hll : (rowsV L).length = L.length * 8 := lenOd L
     have hpn : ¬ ((p : Int) < 0) := by omega
     refine vwp_live [1, 2, 6, 7, 9, 10, 12, 13, 14] (vwp_region hT ?_)
     simp [hf, oI, hpn]
     refine hK13 _ ?_
     try clear hK13 K13
     refine vwp_cond (by first | rfl | (simp; rfl)) (fun h3 => ?_) fun h3 => ?_
     · simp -failIfUnchanged at h3; all_goals
      refine vwp_seq_k fun K16 hK16 => ?_
      simp_all
     · simp -failIfUnchanged at h3; all_goals
      refine vwp_skip ?_
      refine hK12 _ ?_
      try clear hK12 K12
      refine vwp_sq [1, 2, 6, 7, 9, 10, 12, 13, 14] fun K17 hK17 => vwp_region hT ?_
      simp [hf, oI, hrow, hlen, hll, zerosV, spl]
      repeat refine ⟨by first | assumption | omega | (intros; omega), ?_⟩
      refine hK17 _ ?_
      try clear hK17 K17
      rcases vfind_set id K 0 with ⟨hnin, hv⟩ | ⟨q, hq, hv⟩
      · refine vwp_live [1, 2, 6, 7, 9, 12, 13, 14] (vwp_region hT ?_)
        simp [hv]
        repeat refine ⟨by first | assumption | omega | (intros; omega), ?_⟩
        refine hK9 _ ?_
        try clear hK9 K9
        have w1 : IntKind.i64.wrap ((i : Int) + 1) = i + 1 := w64 (by omega) (by omega)
        refine vwp_live [1, 2, 6, 7, 12, 13, 14] (vwp_region hT ?_)
        simp [w1]
        exact hK6 ⟨i + 1, K ++ [id], bs ++ [ck], ck + 1, L ++ [o]⟩ _ (Gh.to_k [1, 2, 6, 7, 12, 13, 14] [0, 1, 2] (he := by simp) (hh := by simp [rnO_set1, rowsV_snoc])) ⟨by dsimp only; omega, by dsimp only; rw [take_snoc hid]; exact hK.more hnin, by dsimp only; rw [take_snoc hid]; exact pick_snoc _ hL hf ho2⟩ (by dsimp only; omega)
      · have hmo := set_modify K q
        have hin := List.mem_of_getElem? hq
        refine vwp_live [1, 2, 6, 7, 9, 12, 13, 14] (vwp_region hT ?_)
        simp [hv, hmo, Nat.zero_add]
        repeat refine ⟨by first | assumption | omega | (intros; omega), ?_⟩
        refine hK9 _ ?_
        try clear hK9 K9
        have w1 : IntKind.i64.wrap ((i : Int) + 1) = i + 1 := w64 (by omega) (by omega)
        refine vwp_live [1, 2, 6, 7, 12, 13, 14] (vwp_region hT ?_)
        simp [w1]
        exact hK6 ⟨i + 1, K, bs, ck, L ++ [o]⟩ _ (Gh.to_k [1, 2, 6, 7, 12, 13, 14] [0, 1, 2] (he := by simp) (hh := by simp [rnO_set1, rowsV_snoc])) ⟨by dsimp only; omega, by dsimp only; rw [take_snoc hid]; exact hK.have hin, by dsimp only; rw [take_snoc hid]; exact pick_snoc _ hL hf ho2⟩ (by dsimp only; omega)
  · simp -failIfUnchanged at h1; all_goals
   refine vwp_exit ?_
   simp only [inBlk, thenQ, if_true]
   refine hK4 _ ?_
   try clear hK4 K4
   refine vwp_seq_k fun K18 hK18 => ?_
   obtain rfl : i = st.length := by omega
   rw [List.take_length] at hK hL
   have hlt := hK.lt
   have hle := hK.le
   refine vwp_sq [1, 6, 7] fun K19 hK19 => vwp_region hT ?_
   simp
   refine hK19 _ ?_
   try clear hK19 K19
   refine vwp_cond (by first | rfl | (simp; rfl)) (fun h4 => ?_) fun h4 => ?_
   · simp -failIfUnchanged at h4; all_goals
    have q := h4
    have q2 : ¬ st.Nodup := hlt.1 (by omega)
    refine vwp_sq [] fun K20 hK20 => vwp_region hT ?_
    simp
    refine hK20 _ ?_
    try clear hK20 K20
    refine vwp_ret (hR _ _ ?_)
    have hw : ordsP w.os st = (none, 6) := by
      unfold ordsP
      rw [hL]
      simp [q2]
    rw [hw]
    exact ret_k [4, 5] [] ([]) (.tup [.nils, .int .i64 6]) (⟨rfl, rfl⟩)
   · simp -failIfUnchanged at h4; all_goals
    have q := h4
    have q2 : st.Nodup := Classical.byContradiction fun h => by have := hlt.2 h; omega
    refine vwp_skip ?_
    refine hK18 _ ?_
    try clear hK18 K18
    refine vwp_sq [6] fun K21 hK21 => vwp_region hT ?_
    simp
    refine hK21 _ ?_
    try clear hK21 K21
    refine vwp_ret (hR _ _ ?_)
    have hw : ordsP w.os st = (some L, 0) := by
      unfold ordsP
      rw [hL]
      simp [q2]
    rw [hw]
    exact ret_k [4, 5] [2] ([.live (rowsV L)]) (.tup [.sl 0 (L.length * 8) 8 0 L.length, .int .i64 0]) (⟨rfl, rfl⟩)

structure Vs where (or ar be le : Int)

abbrev Vs.cells (x : Vs) : List V := [.int .i64 x.or, .int .i64 x.ar, .int .i64 x.be, .int .i64 x.le]
instance : Row Vs := ⟨Vs.cells, 4, fun _ => rfl, fun _ _ => rfl⟩
@[simp] theorem cellsVs (x : Vs) : Row.cells x = Vs.cells x := rfl
theorem lenVs (l : List Vs) : (rowsV l).length = l.length * 4 := rowsV_length l
theorem rowVs {l : List Vs} {i : Nat} {x : Vs} (h : l[i]? = some x) : List.take 4 (List.drop (i * 4) (rowsV l)) = Vs.cells x := rowsV_row h
theorem dropVs {l : List Vs} {i : Nat} {x : Vs} (h : l[i]? = some x) : List.drop (i * 4) (rowsV l) = Vs.cells x ++ rowsV (l.drop (i + 1)) := rowsV_drop h
theorem snocVs (l : List Vs) (x : Vs) : rowsV l ++ Vs.cells x = rowsV (l ++ [x]) := (rowsV_snoc l x).symm
theorem putVs {l : List Vs} {i : Nat} (h : i < l.length) (y : Vs) : List.take (i * 4) (rowsV l) ++ (Vs.cells y ++ List.drop (i * 4 + 4) (rowsV l)) = rowsV (l.set i y) := rowsV_put h y
theorem splVs {l : List Vs} {i : Nat} (h : i < l.length) (y : Vs) : spl (rowsV l) (i * 4) (Vs.cells y) = rowsV (l.set i y) := by
  rw [spl_eq (by rw [lenVs]; simp; omega), List.append_assoc]; exact putVs h y
theorem getVs {l : List Vs} {i : Nat} {x : Vs} (h : l[i]? = some x) : (rowsV l)[i * 4]? = some (.int .i64 x.or) ∧ (rowsV l)[i * 4 + 1]? = some (.int .i64 x.ar) ∧ (rowsV l)[i * 4 + 2]? = some (.int .i64 x.be) ∧ (rowsV l)[i * 4 + 3]? = some (.int .i64 x.le) :=
  ⟨rowsV_get (j := 0) h (by show 0 < 4; omega), rowsV_get (j := 1) h (by show 1 < 4; omega), rowsV_get (j := 2) h (by show 2 < 4; omega), rowsV_get (j := 3) h (by show 3 < 4; omega)⟩

abbrev runO (nd tm ds : Int) (vs : List Vs) : List Ob := [.live [.int .i64 nd, .int .i64 tm, .int .i64 ds, .sl 1 (vs.length * 4) 4 0 vs.length], .live (rowsV vs)]
theorem walk_spec {n : Int} {D T : List Int} (hA : areaB n D T = true) (nd tm ds to : Int) (vs : List Vs) (hf : 0 ≤ nd ∧ nd < n) (ht : 0 ≤ to ∧ to < n) (htm : 0 ≤ tm ∧ tm ≤ 1000000000000) (hds : 0 ≤ ds ∧ ds ≤ 1000000000000) : VC P 68 [.ptr 0 4 0, .agg (arC n D T), .int .i64 to] (runO nd tm ds vs) (fun r ob' => r = .tup [] ∧ ob' = runO to (tm + lg n T nd to) (ds + lg n D nd to) vs) := by
  refine VC_of_vwp_k ent_68 Try.func68 rfl (by simp) fun R hR => ?_
  refine vwp_sq [0, 1, 2] fun K1 hK1 => vwp_region hT ?_
  simp
  refine hK1 _ ?_
  try clear hK1 K1
  obtain ⟨_, _, _, _, _, _, _, _, _, _, _, _, _, _, bD, bT⟩ := lg_get hA hf ht
  have w2 : IntKind.i64.wrap (tm + lg n T nd to) = tm + lg n T nd to := w64 (by omega) (by omega)
  have w3 : IntKind.i64.wrap (ds + lg n D nd to) = ds + lg n D nd to := w64 (by omega) (by omega)
  refine vwp_sq [0, 2, 4] fun K2 hK2 => vwp_calm hT hm (by kernel_rfl) ?_
  simp
  refine ⟨.tup [.int .i64 (lg n D nd to), .int .i64 (lg n T nd to), .int .i64 0], fun sl => ?_, ?_⟩
  · refine vcall_z [] (leg_spec hA nd to hf ht) (by rintro r ob' ⟨rfl, rfl⟩; simp) ?_
    rintro r ob' ⟨rfl, rfl⟩
    simp
  simp
  refine hK2 _ ?_
  try clear hK2 K2
  refine vwp_live [0, 2, 6, 7] (vwp_storm hT hm [.pure, .pure, .pure, .pure, .pure, .win 0 0, .win 0 0, .win 0 0, .pure, .win 0 1, .pure, .win 0 0, .win 0 0, .win 0 0, .pure, .win 0 2, .win 0 0, .win 0 0, .mv, .win 1 1, .win 1 1, .mv, .win 2 2, .win 2 2, .mv] [[], [], [], [], [], [4], [4, 5], [4, 5, 6], [], [4, 5, 6, 7, 8], [], [10], [10, 11], [10, 11, 12], [], [10, 11, 12, 13, 14], [0, 3, 4, 5, 6, 7, 10, 11, 12, 13], [0, 3, 4, 5, 6, 7, 10, 11, 12, 13, 16], [0, 3, 4, 5, 6, 7, 10, 11, 12, 13, 16, 17], [0, 1, 3, 4, 5, 6, 7, 8, 9, 10, 11, 12, 13, 16, 17, 18], [0, 1, 3, 4, 5, 6, 7, 8, 9, 10, 11, 12, 13, 16, 17, 18, 19], [0, 1, 3, 4, 5, 6, 7, 8, 9, 10, 11, 12, 13, 16, 17, 18, 19, 20], [0, 1, 2, 3, 4, 5, 6, 7, 8, 9, 10, 11, 12, 13, 14, 15, 16, 17, 18, 19, 20, 21], [0, 1, 2, 3, 4, 5, 6, 7, 8, 9, 10, 11, 12, 13, 14, 15, 16, 17, 18, 19, 20, 21, 22], [0, 1, 2, 3, 4, 5, 6, 7, 8, 9, 10, 11, 12, 13, 14, 15, 16, 17, 18, 19, 20, 21, 22, 23]] (by kernel_rfl) ?_)
  simp [w2, w3]
  repeat refine ⟨by first | assumption | omega | (intros; omega), ?_⟩
  refine hR _ _ ?_
  exact norm_k [] [0, 1] (runO to (tm + lg n T nd to) (ds + lg n D nd to) vs) (.tup []) (⟨rfl, rfl⟩)
end Go.Proofs.Ytinigjmfjabicaa
