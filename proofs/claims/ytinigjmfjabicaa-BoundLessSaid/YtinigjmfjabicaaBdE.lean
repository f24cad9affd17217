/- The document's certificates: their parts: the walk. -/
import Derived.Test.YtinigjmfjabicaaBdD
import Derived.Test.YtinigjmfjabicaaLrg
namespace Go.Proofs.Ytinigjmfjabicaa
open Go Go.VX Go.RowKit
set_option linter.unusedVariables false
set_option linter.unusedSimpArgs false
set_option maxHeartbeats 20000000
set_option maxRecDepth 100000
theorem node_spec (w : Wd) (ho : w.os.length < 1099511627776) (id : Int) {q : Nat} {o : Od} (hf : fndO w.os id = some q) (ho2 : w.os[q]? = some o) : VC P 51 [.agg w.c, .int .i64 id] [] (fun r ob' => r = .int .i64 o.nd ∧ ob' = []) := by
  refine VC_of_vwp_k ent_51 Try.func51 rfl (by simp) fun R hR => ?_
  refine vwp_sq [0, 1] fun K1 hK1 => vwp_region hT ?_
  simp
  refine hK1 _ ?_
  try clear hK1 K1
  obtain ⟨_, _, g2, _⟩ := getOd ho2
  have hlen := lenOd w.os
  have hql := (List.getElem?_eq_some_iff.1 ho2).1
  refine vwp_sq [1, 2] fun K2 hK2 => vwp_calm hT hm (by kernel_rfl) ?_
  simp [g2, hlen]
  repeat refine ⟨by first | assumption | omega | (intros; omega), ?_⟩
  refine ⟨.int .i64 (q : Int), fun sl => ?_, ?_⟩
  · refine vcall_z [] (dfind_spec w.os ho id) (by rw [hf]; rintro r ob' ⟨rfl, rfl⟩; simp) ?_
    rw [hf]
    rintro r ob' ⟨rfl, rfl⟩
    simp [oI]
  simp [g2, hlen]
  repeat refine ⟨by first | assumption | omega | (intros; omega), ?_⟩
  refine hK2 _ ?_
  try clear hK2 K2
  refine vwp_ret (hR _ _ ?_)
  exact ret_k [4] [] ([]) (.int .i64 o.nd) (⟨rfl, rfl⟩)

def incB : List Int → Bool
  | a :: b :: r => decide (a < b) && incB (b :: r)
  | _ => true
theorem incB_take : ∀ {S : List Int} {i : Nat} {x y : Int}, S[i + 1]? = some x → S[i]? = some y → incB (S.take (i + 2)) = (incB (S.take (i + 1)) && decide (y < x))
  | [], i, x, y, h, _ => by simp at h
  | a :: S, 0, x, y, h1, h2 => by
    simp at h2; subst h2
    cases S with
    | nil => simp at h1
    | cons b S => simp at h1; subst h1; simp [incB]
  | a :: S, i + 1, x, y, h1, h2 => by
    have ih := incB_take (S := S) (i := i) (by simpa using h1) (by simpa using h2)
    cases S with
    | nil => simp at h1
    | cons b S =>
      simp only [List.take_succ_cons, incB] at ih ⊢
      rw [ih, Bool.and_assoc]
theorem incB_iff : ∀ {S : List Int}, incB S = true ↔ S.Pairwise (· < ·)
  | [] => by simp [incB]
  | [a] => by simp [incB]
  | a :: b :: r => by
    simp only [incB, Bool.and_eq_true, decide_eq_true_eq, incB_iff (S := b :: r)]
    constructor
    · rintro ⟨h1, h2⟩
      refine List.pairwise_cons.2 ⟨fun x hx => ?_, h2⟩
      rcases List.mem_cons.1 hx with rfl | hx
      · exact h1
      · have := (List.pairwise_cons.1 h2).1 x hx; omega
    · intro h
      have h2 := List.pairwise_cons.1 h
      exact ⟨h2.1 b (by simp), h2.2⟩
def fndB (os : List Od) (id : Int) : Bool := (fndO os id).isSome
def idsB (os : List Od) (l : List Int) : Bool := l.all (fndB os) && incB l
theorem all_take {l : List Int} {p : Int → Bool} (i : Nat) {x : Int} (h : l[i]? = some x) (hp : p x = false) : l.all p = false := by
  rw [← Bool.not_eq_true, List.all_eq_true]
  intro k
  have := k x (List.mem_of_getElem? h)
  rw [hp] at this; cases this
theorem ids_spec (w : Wd) (ho : w.os.length < 1099511627776) (l : List Int) (hl : l.length < 1099511627776) : VC P 50 [.agg w.c, sI l] [] (fun r ob' => r = .bool (idsB w.os l) ∧ ob' = []) := by
  refine VC_of_vwp_k ent_50 Try.func50 rfl (by simp) fun R hR => ?_
  refine vwp_sq [0, 1] fun K1 hK1 => vwp_region hT ?_
  simp
  refine hK1 _ ?_
  try clear hK1 K1
  refine vwp_seq_k fun K2 hK2 => ?_
  refine vwp_sq [1, 2] fun K3 hK3 => vwp_region hT ?_
  simp
  refine hK3 _ ?_
  try clear hK3 K3
  refine vwp_block ?_
  refine vwp_loop_s (fun i : Nat => ⟨[(1, sI l), (2, .ptr 0 5 0), (5, .int .i64 (i : Int))], [.live w.c]⟩) (fun i => i ≤ l.length ∧ (l.take i).all (fndB w.os) = true ∧ incB (l.take i) = true) (fun i => l.length - i) (0) (Gh.to_k [1, 2, 5] [0]) (⟨by omega, by simp, by simp [incB]⟩) ?_
  rintro i ⟨hi, hal, hin⟩
  intro K4 hK4
  refine vwp_seq_k fun K5 hK5 => ?_
  refine vwp_sq [1, 2, 5] fun K6 hK6 => vwp_region hT ?_
  simp
  refine hK6 _ ?_
  try clear hK6 K6
  refine vwp_cond (by first | rfl | (simp; rfl)) (fun h1 => ?_) fun h1 => ?_
  · simp -failIfUnchanged at h1; all_goals
   refine vwp_skip ?_
   refine hK5 _ ?_
   try clear hK5 K5
   refine vwp_seq_k fun K7 hK7 => ?_
   refine vwp_block ?_
   refine vwp_seq_k fun K8 hK8 => ?_
   obtain ⟨id, hid⟩ := getI (l := l) (i := i) (by omega)
   rcases hf : fndO w.os id with _ | p
   · have hfb : fndB w.os id = false := by unfold fndB; rw [hf]; rfl
     refine vwp_live [1, 2, 5] (vwp_storm hT hm [.win 0 0, .win 0 0, .pure, .pure, .win 0 0, .win 0 0, .mv, .win 1 1, .pure, .off, .off, .off, .off, .off, .off, .off, .off, .off, .off, .off, .off, .off, .off, .pure] [[], [0], [], [], [2, 3], [2, 3, 4], [0, 1, 2, 3, 4, 5], [0, 1, 2, 3, 4, 5, 6], [0, 1, 2, 3, 4, 5, 6, 7], [0, 1, 2, 3, 4, 5, 6, 7, 8], [0, 1, 2, 3, 4, 5, 6, 7, 8, 9], [0, 1, 2, 3, 4, 5, 6, 7, 8, 9, 10], [0, 1, 2, 3, 4, 5, 6, 7, 8, 9, 10, 11], [0, 1, 2, 3, 4, 5, 6, 7, 8, 9, 10, 11], [0, 1, 2, 3, 4, 5, 6, 7, 8, 9, 10, 11, 12, 13], [0, 1, 2, 3, 4, 5, 6, 7, 8, 9, 10, 11, 12, 13, 14], [0, 1, 2, 3, 4, 5, 6, 7, 8, 9, 10, 11], [0, 1, 2, 3, 4, 5, 6, 7, 8, 9, 10, 11], [0, 1, 2, 3, 4, 5, 6, 7, 8, 9, 10, 11, 17], [0, 1, 2, 3, 4, 5, 6, 7, 8, 9, 10, 11, 16, 17, 18], [0, 1, 2, 3, 4, 5, 6, 7, 8, 9, 10, 11, 16, 17, 18, 19], [0, 1, 2, 3, 4, 5, 6, 7, 8, 9, 10, 11, 12, 13, 14, 15, 16, 17, 18, 19, 20], [0, 1, 2, 3, 4, 5, 6, 7, 8, 9, 10, 11, 12, 13, 14, 15, 16, 17, 18, 19, 20, 21], [0, 1, 2, 3, 4, 5, 6, 7, 8, 9, 10, 11, 12, 13, 14, 15, 16, 17, 18, 19, 20, 21, 22]] (by kernel_rfl) ?_)
     simp [hid, hf, oI]
     repeat refine ⟨by first | assumption | omega | (intros; omega), ?_⟩
     refine ⟨.int .i64 (-1), [.live w.c], fun sl => ?_, ?_⟩
     · refine vcall_z [] (dfind_spec w.os ho id) (by rw [hf]; rintro r ob' ⟨rfl, rfl⟩; simp) ?_
       rw [hf]
       rintro r ob' ⟨rfl, rfl⟩
       simp [oI]
     simp [hid, hf, oI]
     repeat refine ⟨by first | assumption | omega | (intros; omega), ?_⟩
     refine hK8 _ ?_
     try clear hK8 K8
     refine vwp_cond (by first | rfl | (simp; rfl)) (fun h2 => ?_) fun h2 => ?_
     · simp -failIfUnchanged at h2; all_goals
      refine vwp_sq [] fun K9 hK9 => vwp_region hT ?_
      simp
      refine hK9 _ ?_
      try clear hK9 K9
      refine vwp_ret (hR _ _ ?_)
      have hw : idsB w.os l = false := by
        unfold idsB; rw [all_take i hid hfb]; rfl
      rw [hw]
      exact ret_k [4] [] ([]) (.bool false) (⟨rfl, rfl⟩)
     · simp -failIfUnchanged at h2; all_goals
      refine vwp_skip ?_
      refine hK7 _ ?_
      try clear hK7 K7
      simp_all
   · have hfb : fndB w.os id = true := by unfold fndB; rw [hf]; rfl
     have hpn : ¬ ((p : Int) < 0) := by omega
     rcases i with _ | u
     skip
     · have hin1 : incB (l.take (0 + 1)) = true := by
         cases l with
         | nil => rfl
         | cons a l => rfl
       refine vwp_live [1, 2, 5] (vwp_storm hT hm [.win 0 0, .win 0 0, .pure, .pure, .win 0 0, .win 0 0, .mv, .win 1 1, .pure, .pure, .win 1 1, .pure, .off, .off, .off, .off, .off, .off, .off, .off, .off, .off, .pure, .pure] [[], [0], [], [], [2, 3], [2, 3, 4], [0, 1, 2, 3, 4, 5], [0, 1, 2, 3, 4, 5, 6], [0, 1, 2, 3, 4, 5, 6, 7], [0, 1, 2, 3, 4, 5, 6, 7, 8], [0, 1, 2, 3, 4, 5, 6, 7, 8, 9], [0, 1, 2, 3, 4, 5, 6, 7, 8, 9, 10], [0, 1, 2, 3, 4, 5, 6, 7, 8, 9, 10, 11], [0, 1, 2, 3, 4, 5, 6, 7, 8, 9, 10, 11], [0, 1, 2, 3, 4, 5, 6, 7, 8, 9, 10, 11, 12, 13], [0, 1, 2, 3, 4, 5, 6, 7, 8, 9, 10, 11, 12, 13, 14], [0, 1, 2, 3, 4, 5, 6, 7, 8, 9, 10, 11], [0, 1, 2, 3, 4, 5, 6, 7, 8, 9, 10, 11], [0, 1, 2, 3, 4, 5, 6, 7, 8, 9, 10, 11, 17], [0, 1, 2, 3, 4, 5, 6, 7, 8, 9, 10, 11, 16, 17, 18], [0, 1, 2, 3, 4, 5, 6, 7, 8, 9, 10, 11, 16, 17, 18, 19], [0, 1, 2, 3, 4, 5, 6, 7, 8, 9, 10, 11, 12, 13, 14, 15, 16, 17, 18, 19, 20], [0, 1, 2, 3, 4, 5, 6, 7, 8, 9, 10, 11, 12, 13, 14, 15, 16, 17, 18, 19, 20, 21], [0, 1, 2, 3, 4, 5, 6, 7, 8, 9, 10, 11, 12, 13, 14, 15, 16, 17, 18, 19, 20, 21, 22]] (by kernel_rfl) ?_)
       simp [hid, hpn]
       repeat refine ⟨by first | assumption | omega | (intros; omega), ?_⟩
       refine ⟨.int .i64 (p : Int), [.live w.c], fun sl => ?_, ?_⟩
       · refine vcall_z [] (dfind_spec w.os ho id) (by rw [hf]; rintro r ob' ⟨rfl, rfl⟩; simp) ?_
         rw [hf]
         rintro r ob' ⟨rfl, rfl⟩
         simp [oI]
       simp [hid, hpn]
       repeat refine ⟨by first | assumption | omega | (intros; omega), ?_⟩
       refine hK8 _ ?_
       try clear hK8 K8
       refine vwp_cond (by first | rfl | (simp; rfl)) (fun h3 => ?_) fun h3 => ?_
       · simp -failIfUnchanged at h3; all_goals
        refine vwp_seq_k fun K10 hK10 => ?_
        simp_all
       · simp -failIfUnchanged at h3; all_goals
        refine vwp_skip ?_
        refine hK7 _ ?_
        try clear hK7 K7
        refine vwp_live [1, 2, 5] (vwp_region hT ?_)
        simp [show IntKind.i64.wrap 1 = 1 from rfl]
        exact hK4 (0 + 1) _ (Gh.to_k [1, 2, 5] [0]) (⟨by omega, by rw [take_snoc hid, List.all_append, hal]; simp [hfb], hin1⟩) (by omega)
     · obtain ⟨y, hy⟩ := getI (l := l) (i := u) (by omega)
       have w3 : IntKind.i64.wrap (u : Int) = (u : Int) := w64 (by omega) (by omega)
       have hit := incB_take hid hy
       rw [hin, Bool.true_and] at hit
       have hu0 : (0 : Int) < (u : Int) + 1 := by omega
       refine vwp_live [1, 2, 5] (vwp_storm hT hm [.win 0 0, .win 0 0, .pure, .pure, .win 0 0, .win 0 0, .mv, .win 1 1, .pure, .pure, .win 1 1, .pure, .pure, .pure, .win 1 1, .win 1 1, .pure, .pure, .win 1 1, .win 1 1, .win 1 1, .win 1 1, .pure, .pure] [[], [0], [], [], [2, 3], [2, 3, 4], [0, 1, 2, 3, 4, 5], [0, 1, 2, 3, 4, 5, 6], [0, 1, 2, 3, 4, 5, 6, 7], [0, 1, 2, 3, 4, 5, 6, 7, 8], [0, 1, 2, 3, 4, 5, 6, 7, 8, 9], [0, 1, 2, 3, 4, 5, 6, 7, 8, 9, 10], [0, 1, 2, 3, 4, 5, 6, 7, 8, 9, 10, 11], [0, 1, 2, 3, 4, 5, 6, 7, 8, 9, 10, 11], [0, 1, 2, 3, 4, 5, 6, 7, 8, 9, 10, 11, 12, 13], [0, 1, 2, 3, 4, 5, 6, 7, 8, 9, 10, 11, 12, 13, 14], [0, 1, 2, 3, 4, 5, 6, 7, 8, 9, 10, 11], [0, 1, 2, 3, 4, 5, 6, 7, 8, 9, 10, 11], [0, 1, 2, 3, 4, 5, 6, 7, 8, 9, 10, 11, 17], [0, 1, 2, 3, 4, 5, 6, 7, 8, 9, 10, 11, 16, 17, 18], [0, 1, 2, 3, 4, 5, 6, 7, 8, 9, 10, 11, 16, 17, 18, 19], [0, 1, 2, 3, 4, 5, 6, 7, 8, 9, 10, 11, 12, 13, 14, 15, 16, 17, 18, 19, 20], [0, 1, 2, 3, 4, 5, 6, 7, 8, 9, 10, 11, 12, 13, 14, 15, 16, 17, 18, 19, 20, 21], [0, 1, 2, 3, 4, 5, 6, 7, 8, 9, 10, 11, 12, 13, 14, 15, 16, 17, 18, 19, 20, 21, 22]] (by kernel_rfl) ?_)
       simp [hid, hpn, hy, w3, hu0]
       repeat refine ⟨by first | assumption | omega | (intros; omega), ?_⟩
       refine ⟨.int .i64 (p : Int), [.live w.c], fun sl => ?_, ?_⟩
       · refine vcall_z [] (dfind_spec w.os ho id) (by rw [hf]; rintro r ob' ⟨rfl, rfl⟩; simp) ?_
         rw [hf]
         rintro r ob' ⟨rfl, rfl⟩
         simp [oI]
       simp [hid, hpn, hy, w3, hu0]
       repeat refine ⟨by first | assumption | omega | (intros; omega), ?_⟩
       refine hK8 _ ?_
       try clear hK8 K8
       refine vwp_cond (by first | rfl | (simp; rfl)) (fun h4 => ?_) fun h4 => ?_
       · simp -failIfUnchanged at h4; all_goals
        have q := h4
        refine vwp_sq [] fun K11 hK11 => vwp_region hT ?_
        simp
        refine hK11 _ ?_
        try clear hK11 K11
        refine vwp_ret (hR _ _ ?_)
        have hw : idsB w.os l = false := by
          unfold idsB
          rw [Bool.and_eq_false_iff]
          right
          rw [← Bool.not_eq_true, incB_iff]
          intro hp
          have := List.pairwise_iff_getElem.1 hp u (u + 1) (by omega) (by omega) (by omega)
          rw [(List.getElem?_eq_some_iff.1 hy).2, (List.getElem?_eq_some_iff.1 hid).2] at this
          omega
        rw [hw]
        exact ret_k [4] [] ([]) (.bool false) (⟨rfl, rfl⟩)
       · simp -failIfUnchanged at h4; all_goals
        have q := h4
        have hin1 : incB (l.take (u + 1 + 1)) = true := by rw [hit]; simp; omega
        refine vwp_skip ?_
        refine hK7 _ ?_
        try clear hK7 K7
        have w1 : IntKind.i64.wrap ((u : Int) + 1 + 1) = u + 1 + 1 := w64 (by omega) (by omega)
        refine vwp_live [1, 2, 5] (vwp_region hT ?_)
        simp [w1]
        exact hK4 (u + 1 + 1) _ (Gh.to_k [1, 2, 5] [0]) (⟨by omega, by rw [take_snoc hid, List.all_append, hal]; simp [hfb], hin1⟩) (by omega)
  · simp -failIfUnchanged at h1; all_goals
   refine vwp_exit ?_
   simp only [inBlk, thenQ, if_true]
   refine hK2 _ ?_
   try clear hK2 K2
   refine vwp_sq [] fun K12 hK12 => vwp_region hT ?_
   simp
   refine hK12 _ ?_
   try clear hK12 K12
   refine vwp_ret (hR _ _ ?_)
   obtain rfl : i = l.length := by omega
   rw [List.take_length] at hal hin
   have hw : idsB w.os l = true := by
     unfold idsB; rw [hal, hin]; rfl
   rw [hw]
   exact ret_k [4] [] ([]) (.bool true) (⟨rfl, rfl⟩)
theorem csame_spec (x : Ct) (h1l : x.ids.length < 1099511627776) (h3l : x.inn.length < 1099511627776) : VC P 15 [.agg x.c, .agg x.c] [] (fun r ob' => r = .bool true ∧ ob' = []) := by
  refine VC_of_vwp_k ent_15 Try.func15 rfl (by simp) fun R hR => ?_
  refine vwp_sq [0, 1] fun K1 hK1 => vwp_region hT ?_
  simp
  refine hK1 _ ?_
  try clear hK1 K1
  refine vwp_sq [2, 3] fun K2 hK2 => vwp_region hT ?_
  simp
  refine vcall_z [] (same_spec x.ids x.ids (by omega) (by omega)) (by rintro r ob' ⟨rfl, rfl⟩; simp) ?_
  rintro r ob' ⟨rfl, rfl⟩
  simp
  refine vcall_z [] (ints_spec x.inn x.inn (by omega) (by omega)) (by rintro r ob' ⟨rfl, rfl⟩; simp) ?_
  rintro r ob' ⟨rfl, rfl⟩
  simp
  refine hK2 _ ?_
  try clear hK2 K2
  refine vwp_ret (hR _ _ ?_)
  exact ret_k [4] [] ([]) (.bool true) (⟨rfl, rfl⟩)

def lrgC (w : Wd) (c : Ct) : Bool := lrgW w c.ids.length || decide ((100 : Int) < (c.inn.length : Int))
theorem lrgC_no {w : Wd} {c : Ct} (h : lrgC w c = false) : w.os.length ≤ 50 ∧ w.ts.length ≤ 50 ∧ w.D.length ≤ 400 ∧ w.T.length ≤ 400 ∧ c.ids.length ≤ 100 ∧ c.inn.length ≤ 100 := by
  simp only [lrgC, lrgW, Bool.or_eq_false_iff, decide_eq_false_iff_not] at h
  omega
theorem lrgC_spec (w : Wd) (c : Ct) : VC P 12 [.agg w.c, .agg c.c] [] (fun r ob' => r = .bool (lrgC w c) ∧ ob' = []) := by
  refine VC_of_vwp_k ent_12 Try.func12 rfl (by simp) fun R hR => ?_
  refine vwp_sq [0, 1] fun K1 hK1 => vwp_region hT ?_
  simp
  refine hK1 _ ?_
  try clear hK1 K1
  refine vwp_sq [2, 3] fun K2 hK2 => vwp_region hT ?_
  simp
  refine vcall_z [] (lrgW_spec w c.ids.length) (by rintro r ob' ⟨rfl, rfl⟩; simp) ?_
  rintro r ob' ⟨rfl, rfl⟩
  simp
  refine hK2 _ ?_
  try clear hK2 K2
  refine vwp_ret (hR _ _ ?_)
  exact ret_k [4] [] ([]) (.bool (lrgC w c)) (⟨rfl, rfl⟩) (hr := by simp only [lrgC]; simp)
end Go.Proofs.Ytinigjmfjabicaa
