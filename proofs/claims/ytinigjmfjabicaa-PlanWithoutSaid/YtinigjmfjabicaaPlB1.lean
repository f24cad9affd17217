/- The law PlanWithout: the walk. -/
import Derived.Test.YtinigjmfjabicaaOnt
import Derived.Test.YtinigjmfjabicaaSums
import Derived.Test.YtinigjmfjabicaaPlZ
namespace Go.Proofs.Ytinigjmfjabicaa
open Go Go.VX Go.RowKit
set_option linter.unusedVariables false
set_option linter.unusedSimpArgs false
set_option maxHeartbeats 20000000
set_option maxRecDepth 100000

theorem runsP_erase {w : Wd} : ∀ {l : List Rt} {cs : List Int} {e : Int} (i : Nat), runsP w l = (some cs, e) → runsP w (l.eraseIdx i) = (some (cs.eraseIdx i), 0)
  | [], cs, e, i, h => by simp [runsP] at h; obtain ⟨rfl, _⟩ := h; simp [runsP]
  | r :: l, cs, e, i, h => by
    simp only [runsP] at h
    split at h
    · cases h
    rename_i t e2 hr
    split at h
    · cases h
    rename_i cs2 e3 hl
    cases h
    have he3 := runsP_zero hl
    cases i with
    | zero => rw [List.eraseIdx_cons_zero, List.eraseIdx_cons_zero, hl, he3]
    | succ i =>
      rw [List.eraseIdx_cons_succ, List.eraseIdx_cons_succ]
      simp only [runsP, hr, runsP_erase i hl]
theorem runsP_app {w : Wd} : ∀ {l m : List Rt} {cs ds : List Int} {e e2 : Int}, runsP w l = (some cs, e) → runsP w m = (some ds, e2) → runsP w (l ++ m) = (some (cs ++ ds), 0)
  | [], m, cs, ds, e, e2, h, h2 => by
    simp [runsP] at h; obtain ⟨rfl, _⟩ := h
    rw [List.nil_append, List.nil_append, h2, runsP_zero h2]
  | r :: l, m, cs, ds, e, e2, h, h2 => by
    simp only [runsP] at h
    split at h
    · cases h
    rename_i t e3 hr
    split at h
    · cases h
    rename_i cs2 e4 hl
    cases h
    simp only [List.cons_append, runsP, hr, runsP_app hl h2]
theorem runsP_rev {w : Wd} : ∀ {l : List Rt} {cs : List Int} {e : Int}, runsP w l = (some cs, e) → runsP w l.reverse = (some cs.reverse, 0)
  | [], cs, e, h => by simp [runsP] at h; obtain ⟨rfl, _⟩ := h; simp [runsP]
  | r :: l, cs, e, h => by
    simp only [runsP] at h
    split at h
    · cases h
    rename_i t e3 hr
    split at h
    · cases h
    rename_i cs2 e4 hl
    cases h
    rw [List.reverse_cons, List.reverse_cons]
    exact runsP_app (runsP_rev hl) (show runsP w [r] = (some [t.co], 0) by simp [runsP, hr])
theorem sum_erase : ∀ {l : List Int} {i : Nat} {x : Int}, l[i]? = some x → l.sum = (l.eraseIdx i).sum + x
  | [], i, x, h => by simp at h
  | a :: l, 0, x, h => by simp at h; subst h; simp; omega
  | a :: l, i + 1, x, h => by
    have := sum_erase (l := l) (i := i) (x := x) (by simpa using h)
    simp only [List.eraseIdx_cons_succ, List.sum_cons]
    omega
theorem catR_erase (l : List Rt) (i : Nat) : (catR (l.eraseIdx i)).Sublist (catR l) := by
  have : ∀ {a b : List Rt}, a.Sublist b → (catR a).Sublist (catR b) := by
    intro a b h
    induction h with
    | slnil => exact List.Sublist.refl _
    | cons r _ ih => simp only [catR, List.flatMap_cons] at ih ⊢; exact ih.trans (List.sublist_append_right _ _)
    | cons_cons r _ ih => simp only [catR, List.flatMap_cons] at ih ⊢; exact ih.append_left _
  exact this (List.eraseIdx_sublist _ _)
theorem catR_rev (l : List Rt) : (catR l.reverse).Perm (catR l) := by
  unfold catR
  exact (List.reverse_perm l).flatMap_right _
theorem catR_len {l : List Rt} {i : Nat} {s : Rt} (h : l[i]? = some s) : (catR l).length = (catR (l.eraseIdx i)).length + s.st.length := by
  have e := split_at h
  have e2 : l.eraseIdx i = l.take i ++ l.drop (i + 1) := List.eraseIdx_eq_take_drop_succ l i
  rw [e2]
  conv => lhs; rw [e]
  simp only [catR, List.flatMap_append, List.flatMap_cons, List.length_append]
  omega
/-- A plan whose routes can be run, whose orders and trucks come once, and that lists all others. -/
theorem checkP_mk {w : Wd} {p : Pn} {cs : List Int} {e : Int} (hok : w.ok) (h6 : p.rs.length ≤ 6) (hr : runsP w p.rs = (some cs, e)) (ht : (trs p.rs).Nodup) (hc : (catR p.rs).Nodup) (hu : p.un = restP w p) : checkP w p = (cs.sum, 0) := by
  unfold checkP
  rw [if_neg (by rw [Wd.e_zero.2 hok]; simp), if_neg (by omega), hr]
  dsimp only
  rw [if_neg, if_neg (by simpa using hu)]
  show ¬ (dupB (trs p.rs) || dupB (catR p.rs)) = true
  simp [dupB, ht, hc]
theorem run_vs {w : Wd} {r : Rt} {t : Tr} {e : Int} (h : runP w r = (some t, e)) : t.vs.length = r.st.length := by
  obtain ⟨_, hok, k, tk, L, _, htk, hp, _, _, hle, _, ht⟩ := runP_some h
  obtain ⟨_, hll, hlo⟩ := pick_small hok hp hle
  have hf := goR_fine hok.A L (s0_fine hok.A (hok.ts tk (List.mem_of_getElem? htk))) hlo
  unfold tripP at ht
  split at ht
  · cases ht
  · cases ht
    have := hf.vs
    dsimp only
    omega
theorem unsF_len {w : Wd} {C : List Int} (hn : (w.os.map (·.id)).Nodup) (hc : C.Nodup) (hs : ∀ id ∈ C, id ∈ w.os.map (·.id)) : C.length + (unsF w.os C).length = w.os.length := by
  have := (all_once hn hc hs).length_eq
  rw [List.length_append, srt_len, List.length_map] at this
  exact this

theorem rows_erase {l : List Rt} {a : Nat} (h : a < l.length) : List.take (a * 2) (rowsV l) ++ List.take ((l.length - (a + 1)) * 2) (List.drop ((a + 1) * 2) (rowsV l)) = rowsV (l.eraseIdx a) := by
  have h1 : List.take (a * 2) (rowsV l) = rowsV (l.take a) := rowsV_take (l := l) a (by omega)
  have h2 : List.drop ((a + 1) * 2) (rowsV l) = rowsV (l.drop (a + 1)) := rowsV_dropAll (l := l) (a + 1) (by omega)
  have h3 : (rowsV (l.drop (a + 1))).length ≤ (l.length - (a + 1)) * 2 := by rw [lenRt, List.length_drop]; omega
  rw [h1, h2, List.take_of_length_le h3, ← rowsV_append, List.eraseIdx_eq_take_drop_succ]
theorem sum_rev : ∀ l : List Int, l.reverse.sum = l.sum
  | [] => rfl
  | x :: l => by rw [List.reverse_cons, List.sum_append, sum_rev l]; simp; omega
theorem unsF_perm {os : List Od} {a b : List Int} (h : a.Perm b) : unsF os a = unsF os b := by
  unfold unsF
  exact List.filter_congr fun x _ => by rw [hasB_perm h]
theorem trs_erase (l : List Rt) (i : Nat) : (trs (l.eraseIdx i)).Sublist (trs l) := (List.eraseIdx_sublist _ _).map _
theorem restP_length {w : Wd} {p : Pn} (hok : w.ok) (hc : (catR p.rs).Nodup) (hs : ∀ id ∈ catR p.rs, id ∈ w.os.map (·.id)) : (catR p.rs).length + (restP w p).length = w.os.length := by
  rw [restP_len]; exact unsF_len hok.ond hc hs
/-- What is so of a plan without one of its routes, and of one turned about. -/
theorem without {w : Wd} {p : Pn} {cs : List Int} {a : Nat} {s : Rt} {tr : Tr} (hok : w.ok) (h6 : p.rs.length ≤ 6) (hrs : runsP w p.rs = (some cs, 0)) (htn : (trs p.rs).Nodup) (hcn : (catR p.rs).Nodup) (hun : p.un = restP w p) (hs : p.rs[a]? = some s) (hrun : runP w s = (some tr, 0)) (hco : cs[a]? = some tr.co) :
    checkP w ⟨p.rs.eraseIdx a, restP w ⟨p.rs.eraseIdx a, []⟩⟩ = (cs.sum - tr.co, 0) ∧ checkP w ⟨p.rs.reverse, p.un⟩ = (cs.sum, 0) ∧
    (restP w ⟨p.rs.eraseIdx a, []⟩).length = p.un.length + tr.vs.length := by
  have hal : a < p.rs.length := (List.getElem?_eq_some_iff.1 hs).1
  have hsb := cat_sub hrs
  have he := catR_erase p.rs a
  refine ⟨?_, ?_, ?_⟩
  · rw [checkP_mk hok (by dsimp only; rw [List.length_eraseIdx_of_lt hal]; omega) (runsP_erase a hrs) (htn.sublist (trs_erase _ _)) (hcn.sublist he) rfl]
    have := sum_erase hco
    simp only [Prod.mk.injEq, and_true]
    omega
  · rw [checkP_mk (e := 0) hok (by simpa using h6) (runsP_rev hrs) ?_ ((catR_rev p.rs).nodup_iff.2 hcn) ?_]
    · rw [sum_rev]
    · show (trs p.rs.reverse).Nodup
      rw [show trs p.rs.reverse = (trs p.rs).reverse from List.map_reverse, (List.reverse_perm _).nodup_iff]
      exact htn
    · rw [hun]
      unfold restP
      rw [unsF_perm (catR_rev p.rs)]
  · have h1 := restP_length hok hcn hsb
    have h2 := restP_length (p := ⟨p.rs.eraseIdx a, []⟩) hok (hcn.sublist he) (fun id hid => hsb id (he.subset hid))
    have h3 := catR_len hs
    have h4 := run_vs hrun
    rw [← hun] at h1
    dsimp only at h2
    omega
theorem law_pwithout (w : Wd) (p : Pn) (at_ : Int) (ha1 : -9223372036854775808 ≤ at_) (ha2 : at_ ≤ 9223372036854775807) (up : p.un.length ≤ 140737488355328) (rp : p.rs.length ≤ 140737488355328) (sp : ∀ r ∈ p.rs, r.st.length ≤ 140737488355328) : VC P 6 [.agg w.c, .agg p.c, .int .i64 at_] [] (fun r ob' => r = .bool true ∧ ob' = []) := by
  refine VC_of_vwp_k ent_6 Try.func6 rfl (by simp) fun R hR => ?_
  refine vwp_sq [0, 1, 2] fun K1 hK1 => vwp_region hT ?_
  simp
  refine hK1 _ ?_
  try clear hK1 K1
  refine vwp_seq_k fun K2 hK2 => ?_
  refine vwp_sq [2, 3, 4] fun K3 hK3 => vwp_region hT ?_
  simp
  refine vcall_k [] (awake9) ?_
  rintro r ob' ⟨rfl, rfl⟩
  simp
  refine hK3 _ ?_
  try clear hK3 K3
  refine vwp_cond (by first | rfl | (simp; rfl)) (fun h1 => ?_) fun h1 => ?_
  · simp -failIfUnchanged at h1; all_goals
   refine vwp_seq_k fun K4 hK4 => ?_
   simp_all
  · simp -failIfUnchanged at h1; all_goals
   refine vwp_skip ?_
   refine hK2 _ ?_
   try clear hK2 K2
   refine vwp_cut_s (fun _ : Unit => ⟨[(2, .int .i64 at_), (3, .ptr 0 5 0), (4, .ptr 1 2 0)], [.live w.c, .live p.c]⟩) (fun _ => p.few ∧ w.os.length ≤ 50 ∧ w.ts.length ≤ 50) (fun K5 hK5 => ?_) ?_
   · refine vwp_sq [2, 3, 4] fun K6 hK6 => vwp_region hT ?_
     simp [zerosV, spl]
     refine vcall_z [] (large_pspec w [p] (by simp) (by simp; exact ⟨up, rp, sp⟩)) (by rintro r ob' ⟨rfl, rfl⟩; simp) ?_ (ha := by simp [rowsV])
     rintro r ob' ⟨rfl, rfl⟩
     simp [zerosV, spl]
     refine hK6 _ ?_
     try clear hK6 K6
     refine vwp_cond (by first | rfl | (simp; rfl)) (fun h2 => ?_) fun h2 => ?_
     · simp -failIfUnchanged at h2; all_goals
      refine vwp_sq [] fun K7 hK7 => vwp_region hT ?_
      simp
      refine hK7 _ ?_
      try clear hK7 K7
      refine vwp_ret (hR _ _ ?_)
      exact ret_k [6] [] ([]) (.bool true) (⟨rfl, rfl⟩)
     · simp -failIfUnchanged at h2; all_goals
      have q := h2
      have fp : p.few := by simp -failIfUnchanged at q; exact (lrgP_no q.1).1
      have hl1 : w.os.length ≤ 50 ∧ w.ts.length ≤ 50 := by
        simp -failIfUnchanged at q
        have := q.2
        simp only [lrgW, decide_eq_false_iff_not] at this
        omega
      refine vwp_skip ?_
      exact hK5 (()) _ (Gh.to_k [2, 3, 4] [0, 1]) (⟨fp, hl1⟩)
   · rintro _ ⟨fp, hl1⟩
     refine vwp_sq [2, 3, 4] fun K8 hK8 => vwp_region hT ?_
     simp
     refine vcall_z [] (check_spec w (by omega) (by omega) p fp.rs fp.cat fp.un) (by rintro r ob' ⟨rfl, rfl⟩; simp) ?_
     rintro r ob' ⟨rfl, rfl⟩
     simp
     refine hK8 _ ?_
     try clear hK8 K8
     refine vwp_seq_k fun K9 hK9 => ?_
     refine vwp_sq [2, 3, 4, 7, 8] fun K10 hK10 => vwp_region hT ?_
     simp
     refine hK10 _ ?_
     try clear hK10 K10
     refine vwp_cond (by first | rfl | (simp; rfl)) (fun h3 => ?_) fun h3 => ?_
     · simp -failIfUnchanged at h3; all_goals
      have q := h3
      refine vwp_seq_k fun K11 hK11 => ?_
      by_cases he : (checkP w p).2 = 0
      · refine vwp_live [7, 8] (vwp_region hT ?_)
        simp [he]
        refine hK11 _ ?_
        try clear hK11 K11
        refine vwp_ret (hR _ _ ?_)
        exact ret_k [6] [] ([]) (.bool true) (⟨rfl, rfl⟩)
      · have hz := checkP_bad he
        have hbe : ((checkP w p).2 == 0) = false := by simpa using he
        refine vwp_live [7, 8] (vwp_region hT ?_)
        simp [hbe, hz]
        refine hK11 _ ?_
        try clear hK11 K11
        refine vwp_ret (hR _ _ ?_)
        exact ret_k [6] [] ([]) (.bool true) (⟨rfl, rfl⟩)
     · simp -failIfUnchanged at h3; all_goals
      have q := h3
      obtain ⟨hok, h6, cs, hrs, htn, hcn, hun, hck⟩ := checkP_ok (w := w) (p := p) (by simp -failIfUnchanged at q; omega)
      obtain ⟨a, haE⟩ := Int.eq_ofNat_of_zero_le (show 0 ≤ at_ by simp -failIfUnchanged at q; omega)
      subst haE
      have hal : a < p.rs.length := by simp -failIfUnchanged at q; omega
      rw [hck]
      obtain ⟨s, hs⟩ := getI hal
      have hrow := rowRt hs
      have hlen := lenRt p.rs
      obtain ⟨tr, hrun, hco⟩ := runsP_at hrs a s hs
      obtain ⟨hcl, hcb⟩ := runsP_co hrs
      have hst : s.st.length < 1099511627776 := by
        have h1 := catR_le p.rs (a + 1)
        have h2 := fp.cat
        rw [catR_take hs, List.length_append] at h1
        omega
      refine vwp_skip ?_
      refine hK9 _ ?_
      try clear hK9 K9
      refine vwp_cut_s (fun _ : Unit => ⟨[(2, .int .i64 (a : Int)), (3, .ptr 0 5 0), (4, .ptr 1 2 0), (7, .int .i64 cs.sum), (9, .ptr 3 4 0), (10, .int .i64 0)], [.live w.c, .live p.c, .live (rowsV tr.vs), .live [.sl 2 (tr.vs.length * 4) 4 0 tr.vs.length, .int .i64 tr.ba, .int .i64 tr.ds, .int .i64 tr.co]]⟩) (fun _ => True) (fun K12 hK12 => ?_) ?_
      · refine vwp_live [2, 3, 4, 7] (vwp_of_some hm (vsome_pair 6 10 (by decide) ?_ ?_))
        · refine vsome_storm hT [0, 1, 2, 3, 4, 5, 6, 7, 8, 9, 10, 11, 12] [.win 0 0, .win 0 0, .win 0 0, .pure, .win 0 0, .win 0 0, .mv, .pure, .pure, .pure, .mv, .mv, .pure] [[], [], [1], [], [1, 2, 3], [1, 2, 3, 4], [0, 1, 2, 3, 4, 5], [0, 1, 2, 3, 4, 5, 6], [0, 1, 2, 3, 4, 5, 6, 7], [0, 1, 2, 3, 4, 5, 6, 7], [0, 1, 2, 3, 4, 5, 6], [0, 1, 2, 3, 4, 5, 6, 7, 8, 10], [0, 1, 2, 3, 4, 5, 6, 7, 8, 9, 10, 11]] (by kernel_rfl) (by kernel_rfl) ?_
          simp [hrow, hlen]
          repeat refine ⟨by first | assumption | omega | (intros; omega), ?_⟩
          refine ⟨.tup [.agg [.sl 2 (tr.vs.length * 4) 4 0 tr.vs.length, .int .i64 tr.ba, .int .i64 tr.ds, .int .i64 tr.co], .int .i64 0], [.live w.c, .live p.c, .live (rowsV tr.vs)], fun sl => ?_, ?_⟩
          · refine vcall_z [] (run_spec w (by omega) (by omega) s hst) (by rw [hrun]; rintro r ob' ⟨rfl, rfl⟩; simp; intro c hc; obtain ⟨n, rfl⟩ := vsC hc; rfl) ?_
            rw [hrun]
            rintro r ob' ⟨rfl, rfl⟩
            simp
          simp [hrow, hlen]
          repeat refine ⟨by first | assumption | omega | (intros; omega), ?_⟩
          exact hK12 (()) _ (Gh.to_k [2, 3, 4, 7, 9, 10] [0, 1, 2, 3]) (trivial)
        · refine vsome_storm hT [0, 1, 2, 3, 4, 5, 10, 6, 7, 8, 9, 11, 12] [.win 0 1, .win 0 1, .win 0 1, .pure, .win 0 1, .win 0 1, .mv, .mv, .pure, .pure, .pure, .mv, .pure] [[], [], [1], [], [1, 2, 3], [1, 2, 3, 4], [], [0, 1, 2, 3, 4, 5, 6], [0, 1, 2, 3, 4, 5, 6, 7], [0, 1, 2, 3, 4, 5, 6, 7, 8], [0, 1, 2, 3, 4, 5, 6, 7, 8], [0, 1, 2, 3, 4, 5, 6, 7, 8, 9], [0, 1, 2, 3, 4, 5, 6, 7, 8, 9, 10, 11]] (by kernel_rfl) (by kernel_rfl) ?_
          simp [hrow, hlen]
          repeat refine ⟨by first | assumption | omega | (intros; omega), ?_⟩
          refine ⟨.tup [.agg [.sl 3 (tr.vs.length * 4) 4 0 tr.vs.length, .int .i64 tr.ba, .int .i64 tr.ds, .int .i64 tr.co], .int .i64 0], [.live w.c, .live p.c, .live [.nils, .int .i64 0, .int .i64 0, .int .i64 0], .live (rowsV tr.vs)], fun sl => ?_, ?_⟩
          · refine vcall_z [] (run_spec w (by omega) (by omega) s hst) (by rw [hrun]; rintro r ob' ⟨rfl, rfl⟩; simp; intro c hc; obtain ⟨n, rfl⟩ := vsC hc; rfl) ?_
            rw [hrun]
            rintro r ob' ⟨rfl, rfl⟩
            simp
          simp [hrow, hlen]
          repeat refine ⟨by first | assumption | omega | (intros; omega), ?_⟩
          exact hK12 () _ (Gh.to_k [2, 3, 4, 7, 9, 10] [0, 1, 3, 2]) (trivial)
      · rintro _ _
        refine vwp_cut_s (fun _ : Unit => ⟨[(3, .ptr 0 5 0), (4, .ptr 1 2 0), (7, .int .i64 cs.sum), (9, .ptr 3 4 0), (10, .int .i64 0), (11, .ptr 4 2 0)], [.live w.c, .live p.c, .live (rowsV tr.vs), .live [.sl 2 (tr.vs.length * 4) 4 0 tr.vs.length, .int .i64 tr.ba, .int .i64 tr.ds, .int .i64 tr.co], .live [rtV (p.rs.eraseIdx a), .fs 0 []]]⟩) (fun _ => True) (fun K13 hK13 => ?_) ?_
        · have wa : IntKind.i64.wrap ((a : Int) + 1) = (a : Int) + 1 := w64 (by omega) (by omega)
          have her := rows_erase hal
          have hel : a + (p.rs.length - (a + 1)) = (p.rs.eraseIdx a).length := by rw [List.length_eraseIdx_of_lt hal]; omega
          have hlen := lenRt p.rs
          have htk : List.take ((p.rs.eraseIdx a).length * 2) (rowsV (p.rs.eraseIdx a)) = rowsV (p.rs.eraseIdx a) := List.take_of_length_le (Nat.le_of_eq (lenRt _))
          have hern : ∀ c ∈ rowsV (p.rs.eraseIdx a), c.noId = true := rt_noId
          refine vwp_live [2, 3, 4, 7, 9, 10] (vwp_of_some hm (vsome_pair 11 13 (by decide) ?_ ?_))
          · refine vsome_storm hT [0, 1, 2, 3, 4, 5, 6, 7, 8, 9, 10, 11, 12, 13, 14] [.mv, .win 0 1, .win 0 1, .pure, .win 0 1, .mv, .win 0 2, .win 0 2, .pure, .win 0 2, .win 0 2, .mv, .win 3 4, .mv, .mv] [[], [], [1], [], [1, 2, 3], [0, 1, 2, 3, 4], [], [6], [], [8], [6, 7, 8, 9], [0, 1, 2, 3, 4, 5, 6, 7, 8, 9, 10], [0, 1, 2, 3, 4, 5, 6, 7, 8, 9, 10, 11], [0, 1, 2, 3, 4, 5, 6, 7, 8, 9, 10, 11], [0, 1, 2, 3, 4, 5, 6, 7, 8, 9, 10, 11, 12, 13]] (by kernel_rfl) (by kernel_rfl) ?_
            simp [zerosV, spl, wa, her, hel, hlen]
            repeat refine ⟨by first | assumption | omega | (intros; omega), ?_⟩
            exact hK13 () _ ((((Gh.freeze 4 rfl hern).trans (Gh.cellFs 4 5 0 rfl rfl rfl (lenRt _))).trans (Gh.nilFs 5 1 rfl rfl)).trans (Gh.to_k [3, 4, 7, 9, 10, 11] [0, 1, 2, 3, 5] (hh := by simp [htk]))) trivial
          · refine vsome_pair 5 13 (by decide) ?_ ?_
            · refine vsome_storm hT [0, 1, 2, 3, 4, 5, 6, 7, 8, 9, 10, 13, 11, 12, 14] [.mv, .win 0 1, .win 0 1, .pure, .win 0 1, .mv, .win 0 3, .win 0 3, .pure, .win 0 3, .win 0 3, .mv, .mv, .win 4 4, .mv] [[], [], [1], [], [1, 2, 3], [0, 1, 2, 3, 4], [], [6], [], [8], [6, 7, 8, 9], [0, 1, 2, 3, 4, 5], [0, 1, 2, 3, 4, 5, 6, 7, 8, 9, 10, 11], [0, 1, 2, 3, 4, 5, 6, 7, 8, 9, 10, 11, 12], [0, 1, 2, 3, 4, 5, 6, 7, 8, 9, 10, 11, 12, 13]] (by kernel_rfl) (by kernel_rfl) ?_
              simp [zerosV, spl, wa, her, hel, hlen]
              repeat refine ⟨by first | assumption | omega | (intros; omega), ?_⟩
              exact hK13 () _ ((((Gh.freeze 4 rfl hern).trans (Gh.cellFs 4 5 0 rfl rfl rfl (lenRt _))).trans (Gh.nilFs 5 1 rfl rfl)).trans (Gh.to_k [3, 4, 7, 9, 10, 11] [0, 1, 2, 3, 5] (hh := by simp [htk]))) trivial
            · refine vsome_pair 0 13 (by decide) ?_ ?_
              · refine vsome_storm hT [0, 1, 2, 3, 4, 13, 5, 6, 7, 8, 9, 10, 11, 12, 14] [.mv, .win 0 2, .win 0 2, .pure, .win 0 2, .mv, .mv, .win 0 3, .win 0 3, .pure, .win 0 3, .win 0 3, .mv, .win 4 4, .mv] [[], [], [1], [], [1, 2, 3], [0], [0, 1, 2, 3, 4, 5], [], [7], [], [9], [7, 8, 9, 10], [0, 1, 2, 3, 4, 5, 6, 7, 8, 9, 10, 11], [0, 1, 2, 3, 4, 5, 6, 7, 8, 9, 10, 11, 12], [0, 1, 2, 3, 4, 5, 6, 7, 8, 9, 10, 11, 12, 13]] (by kernel_rfl) (by kernel_rfl) ?_
                simp [zerosV, spl, wa, her, hel, hlen]
                repeat refine ⟨by first | assumption | omega | (intros; omega), ?_⟩
                exact hK13 () _ ((((Gh.freeze 4 rfl hern).trans (Gh.cellFs 4 5 0 rfl rfl rfl (lenRt _))).trans (Gh.nilFs 5 1 rfl rfl)).trans (Gh.to_k [3, 4, 7, 9, 10, 11] [0, 1, 2, 3, 5] (hh := by simp [htk]))) trivial
              · refine vsome_storm hT [13, 0, 1, 2, 3, 4, 5, 6, 7, 8, 9, 10, 11, 12, 14] [.mv, .mv, .win 0 2, .win 0 2, .pure, .win 0 2, .mv, .win 0 3, .win 0 3, .pure, .win 0 3, .win 0 3, .mv, .win 4 4, .mv] [[], [0], [], [2], [], [2, 3, 4], [0, 1, 2, 3, 4, 5], [], [7], [], [9], [7, 8, 9, 10], [0, 1, 2, 3, 4, 5, 6, 7, 8, 9, 10, 11], [0, 1, 2, 3, 4, 5, 6, 7, 8, 9, 10, 11, 12], [0, 1, 2, 3, 4, 5, 6, 7, 8, 9, 10, 11, 12, 13]] (by kernel_rfl) (by kernel_rfl) ?_
                simp [zerosV, spl, wa, her, hel, hlen]
                repeat refine ⟨by first | assumption | omega | (intros; omega), ?_⟩
                exact hK13 () _ ((((Gh.freeze 5 rfl hern).trans (Gh.cellFs 5 4 0 rfl rfl rfl (lenRt _))).trans (Gh.nilFs 4 1 rfl rfl)).trans (Gh.to_k [3, 4, 7, 9, 10, 11] [0, 1, 2, 3, 4] (hh := by simp [htk]))) trivial
        · rintro _ _
          obtain ⟨hx, hy, hl⟩ := without hok h6 hrs htn hcn hun hs hrun hco
          have hel : (p.rs.eraseIdx a).length = p.rs.length - 1 := List.length_eraseIdx_of_lt hal
          have hcl2 := (catR_erase p.rs a).length_le
          have hcp := fp.cat
          have hup := fp.un
          have hrb : (restP w ⟨p.rs.eraseIdx a, []⟩).length ≤ w.os.length := by rw [restP_len]; exact unsF_le _ _
          refine vwp_sq [3, 4, 7, 9, 10, 11] fun K14 hK14 => vwp_region hT ?_
          simp
          repeat refine ⟨by first | assumption | omega | (intros; omega), ?_⟩
          refine vcall_z [] (rest_spec w (by omega) ⟨p.rs.eraseIdx a, []⟩ (by dsimp only; omega) (by dsimp only; omega)) (by rintro r ob' ⟨rfl, rfl⟩; simp) ?_
          rintro r ob' ⟨rfl, rfl⟩
          simp
          repeat refine ⟨by first | assumption | omega | (intros; omega), ?_⟩
          refine hK14 _ ?_
          try clear hK14 K14
          refine vwp_gh ((Gh.freeze 5 rfl (by simp)).trans (Gh.cellFs 5 4 1 rfl rfl rfl (by simp))) ?_
          simp
          refine vwp_sq [3, 4, 7, 9, 10, 11] fun K15 hK15 => vwp_region hT ?_
          simp
          refine vcall_z [] (check_spec w (by omega) (by omega) ⟨p.rs.eraseIdx a, (restP w ⟨p.rs.eraseIdx a, []⟩)⟩ (by dsimp only; omega) (by dsimp only; omega) (by dsimp only; omega)) (by rw [hx]; rintro r ob' ⟨rfl, rfl⟩; simp) ?_
          rw [hx]
          rintro r ob' ⟨rfl, rfl⟩
          simp
          refine hK15 _ ?_
          try clear hK15 K15
          refine vwp_sq [3, 4, 7, 9, 10, 11, 12, 13] fun K16 hK16 => vwp_region hT ?_
          simp
          repeat refine ⟨by first | assumption | omega | (intros; omega), ?_⟩
          refine hK16 _ ?_
          try clear hK16 K16
          refine vwp_seq_k fun K17 hK17 => ?_
          have w5 : IntKind.i64.wrap ((p.rs.length : Int) - 1) = (p.rs.length : Int) - 1 := w64 (by omega) (by omega)
          have hlen := lenRt p.rs
          refine vwp_sq [3, 4, 7, 9, 10, 11, 12, 13, 14] fun K18 hK18 => vwp_region hT ?_
          simp [w5]
          refine hK18 _ ?_
          try clear hK18 K18
          refine vwp_block ?_
          refine vwp_loop_s (fun i : Nat => ⟨[(3, .ptr 0 5 0), (4, .ptr 1 2 0), (7, .int .i64 cs.sum), (9, .ptr 3 4 0), (10, .int .i64 0), (11, .ptr 4 2 0), (12, .int .i64 (cs.sum - tr.co)), (13, .int .i64 0), (14, .ptr 5 2 0), (15, .int .i64 ((i : Int) - 1))], [.live w.c, .live p.c, .live (rowsV tr.vs), .live [.sl 2 (tr.vs.length * 4) 4 0 tr.vs.length, .int .i64 tr.ba, .int .i64 tr.ds, .int .i64 tr.co], .live [rtV (p.rs.eraseIdx a), sI (restP w ⟨p.rs.eraseIdx a, []⟩)], .live [.sl 6 ((p.rs.length - i) * 2) 2 0 (p.rs.length - i), sI p.un], .live (rowsV (p.rs.drop i).reverse)]⟩) (fun i => i ≤ p.rs.length) (fun i => i) (p.rs.length) ((Gh.virtC 6 0 2 rfl rfl).trans (Gh.to_k [3, 4, 7, 9, 10, 11, 12, 13, 14, 15] [0, 1, 2, 3, 4, 6, 7] (he := by simp) (hh := by simp))) (by omega) ?_
          rintro i hi
          intro K19 hK19
          refine vwp_seq_k fun K20 hK20 => ?_
          refine vwp_sq [3, 4, 7, 9, 10, 11, 12, 13, 14, 15] fun K21 hK21 => vwp_region hT ?_
          simp
          refine hK21 _ ?_
          try clear hK21 K21
          refine vwp_cond (by first | rfl | (simp; rfl)) (fun h4 => ?_) fun h4 => ?_
          · simp -failIfUnchanged at h4; all_goals
           have q := h4
           obtain ⟨u, rfl⟩ : ∃ u, i = u + 1 := ⟨i - 1, by simp -failIfUnchanged at q; omega⟩
           obtain ⟨s2, hs2⟩ := getI (l := p.rs) (i := u) (by omega)
           have hrow2 := rowRt hs2
           have hlen := lenRt p.rs
           have hu1 : ((u + 1 : Nat) : Int) - 1 = (u : Int) := by omega
           rw [hu1]
           have wu : IntKind.i64.wrap ((u : Int) - 1) = (u : Int) - 1 := w64 (by omega) (by omega)
           have hnx : p.rs.length - (u + 1) + 1 = p.rs.length - u := by omega
           have hlr : (rowsV (p.rs.drop (u + 1)).reverse).length = (p.rs.length - (u + 1)) * 2 := by rw [lenRt]; simp
           have hrw : rowsV (p.rs.drop (u + 1)).reverse ++ [V.int .i64 s2.tr, sI s2.st] = rowsV (p.rs.drop u).reverse := by
             show rowsV (p.rs.drop (u + 1)).reverse ++ Row.cells s2 = rowsV (p.rs.drop u).reverse
             rw [← rowsV_snoc, List.drop_eq_getElem_cons (by omega : u < p.rs.length), List.reverse_cons, (List.getElem?_eq_some_iff.1 hs2).2]
           refine vwp_skip ?_
           refine hK20 _ ?_
           try clear hK20 K20
           refine vwp_seq_k fun K22 hK22 => ?_
           refine vwp_block ?_
           refine vwp_live [3, 4, 7, 9, 10, 11, 12, 13, 14, 15] (vwp_storm hT hm [.win 0 0, .win 0 0, .win 0 0, .win 0 0, .pure, .win 0 0, .win 0 0, .lit, .mv, .win 1 1, .mv] [[], [0], [], [2], [], [2, 3, 4], [2, 3, 4, 5], [2, 3, 4, 5, 6], [0, 1, 2, 3, 4, 5, 6, 7], [0, 1, 2, 3, 4, 5, 6, 7, 8], [0, 1, 2, 3, 4, 5, 6, 7, 8, 9]] (by kernel_rfl) ?_)
           simp [hrow2, hlen, hlr, zerosV, spl]
           repeat refine ⟨by first | assumption | omega | (intros; omega), ?_⟩
           refine hK22 _ ?_
           try clear hK22 K22
           refine vwp_live [3, 4, 7, 9, 10, 11, 12, 13, 14, 15] (vwp_region hT ?_)
           simp [wu]
           exact hK19 (u) _ (Gh.to_k [3, 4, 7, 9, 10, 11, 12, 13, 14, 15] [0, 1, 2, 3, 4, 5, 6] (he := by simp [hnx]) (hh := by simp [hnx, hrw])) (by omega) (by omega)
          · simp -failIfUnchanged at h4; all_goals
           obtain rfl : i = 0 := by have q := h4; simp -failIfUnchanged at q; omega
           refine vwp_exit ?_
           simp only [inBlk, thenQ, if_true]
           refine hK17 _ ?_
           try clear hK17 K17
           have hlr : (rowsV p.rs.reverse).length = p.rs.length * 2 := by rw [lenRt]; simp
           have htr : List.take (p.rs.length * 2) (rowsV p.rs.reverse) = rowsV p.rs.reverse := List.take_of_length_le (Nat.le_of_eq hlr)
           refine vwp_gh ((Gh.freeze 6 rfl rt_noId).trans (Gh.cellFs 6 5 0 rfl rfl rfl (by simp [hlr]))) ?_
           simp [htr]
           refine vwp_sq [3, 4, 7, 9, 10, 11, 12, 13, 14] fun K23 hK23 => vwp_region hT ?_
           simp
           refine vcall_z [] (check_spec w (by omega) (by omega) ⟨p.rs.reverse, p.un⟩ (by simp; omega) (by simp [(catR_rev p.rs).length_eq]; omega) (by dsimp only; omega)) (by rw [hy]; rintro r ob' ⟨rfl, rfl⟩; simp) ?_ (ha := by simp)
           rw [hy]
           rintro r ob' ⟨rfl, rfl⟩
           simp
           refine hK23 _ ?_
           try clear hK23 K23
           obtain ⟨hs0, hs9⟩ := sum_bounds2 hcb
           have htc := hcb tr.co (List.mem_of_getElem? hco)
           have w6 : IntKind.i64.wrap (cs.sum - tr.co) = cs.sum - tr.co := w64 (by omega) (by omega)
           have w7 : IntKind.i64.wrap ((p.un.length : Int) + (tr.vs.length : Int)) = (p.un.length : Int) + (tr.vs.length : Int) := w64 (by omega) (by omega)
           have w8 : ((restP w ⟨p.rs.eraseIdx a, []⟩).length : Int) = (p.un.length : Int) + (tr.vs.length : Int) := by rw [hl]; omega
           have hlv : (rowsV tr.vs).length = tr.vs.length * 4 := rowsV_length _
           refine vwp_sq [4, 7, 9, 10, 11, 12, 13, 16, 17] fun K24 hK24 => vwp_region hT ?_
           simp [w6, w7, w8, hlv]
           refine hK24 _ ?_
           try clear hK24 K24
           refine vwp_ret (hR _ _ ?_)
           exact ret_k [6] [] ([]) (.bool true) (⟨rfl, rfl⟩)
end Go.Proofs.Ytinigjmfjabicaa
