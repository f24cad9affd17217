/- Sectors that stand; wiping. -/
import Derived.Test.YtifhbgppjblobaaLogL
namespace Go.Proofs.Ytifhbgppjblobaa
open Go Go.VX Go.RowKit
set_option linter.unusedVariables false
set_option linter.unusedSimpArgs false
set_option maxHeartbeats 20000000
set_option maxRecDepth 100000

/-- Do sectors stand in a half, from a place on? -/
def stOne (d : Dk) (ix : Nat) (w : List Int) : Bool := decide ((d.sector ix).take w.length = w) && blankB ((d.sector ix).drop w.length)
def standB (d : Dk) (n h at_ : Nat) (ws : List (List Int)) : Bool := (List.range ws.length).all fun i => stOne d (h * (n / 2) + (at_ + i)) (ws.getD i [])
theorem standB_yes {d : Dk} {n h at_ : Nat} {ws : List (List Int)} (hh : ∀ (i : Nat) w, ws[i]? = some w → stOne d (h * (n / 2) + (at_ + i)) w = true) : standB d n h at_ ws = true := by
  unfold standB
  rw [List.all_eq_true]
  intro i hi
  obtain ⟨w, hw⟩ := getI (l := ws) (i := i) (List.mem_range.1 hi)
  have e : ws.getD i [] = w := by rw [List.getD_eq_getElem?_getD, hw]; rfl
  rw [e]
  exact hh i w hw
theorem standB_no {d : Dk} {n h at_ i : Nat} {ws : List (List Int)} {w : List Int} (hw : ws[i]? = some w) (hh : stOne d (h * (n / 2) + (at_ + i)) w = false) : standB d n h at_ ws = false := by
  unfold standB
  rw [List.all_eq_false]
  refine ⟨i, List.mem_range.2 (List.getElem?_eq_some_iff.1 hw).1, ?_⟩
  have e : ws.getD i [] = w := by rw [List.getD_eq_getElem?_getD, hw]; rfl
  rw [e, hh]
  simp
theorem stand_spec (g : Lg) (d : Dk) (n : Nat) (hd : d.ok n) (h at_ : Nat) (ws : List (List Int)) (hix : h * (n / 2) + (at_ + ws.length) ≤ n) (hwl : ∀ w ∈ ws, w.length ≤ 32) : VC P 62 [.ptr 0 6 0, .int .i64 h, .int .i64 at_, sBB ws] (lobs g d n) (fun r ob' => r = .bool (standB d n h at_ ws) ∧ ob' = lobs g d n) := by
  refine VC_of_vwp_k ent_62 Try.func62 rfl (by simp) fun R hR => ?_
  refine vwp_sq [0, 1, 2, 3] fun K1 hK1 => vwp_region hT ?_
  simp
  refine hK1 _ ?_
  try clear hK1 K1
  refine vwp_seq_k fun K2 hK2 => ?_
  refine vwp_sq [0, 1, 2, 3] fun K3 hK3 => vwp_region hT ?_
  simp
  refine hK3 _ ?_
  try clear hK3 K3
  refine vwp_block ?_
  refine vwp_loop_s (fun i : Nat => ⟨[(0, .ptr 0 6 0), (1, .int .i64 h), (2, .int .i64 at_), (12, sBB ws), (13, .int .i64 ws.length), (14, .int .i64 (i : Int))], lobs g d n⟩) (fun i => i ≤ ws.length ∧ ∀ (j : Nat) w, j < i → ws[j]? = some w → stOne d (h * (n / 2) + (at_ + j)) w = true) (fun i => ws.length - i) (0) (Gh.to_k [0, 1, 2, 12, 13, 14] [0, 1, 2, 3]) (⟨by omega, fun j w hj => by omega⟩) ?_
  rintro i ⟨hi, hall⟩
  intro K4 hK4
  refine vwp_sq [0, 1, 2, 12, 13, 14] fun K5 hK5 => vwp_region hT ?_
  simp
  refine hK5 _ ?_
  try clear hK5 K5
  refine vwp_seq_k fun K6 hK6 => ?_
  refine vwp_cond (by first | rfl | (simp; rfl)) (fun h1 => ?_) fun h1 => ?_
  · simp -failIfUnchanged at h1; all_goals
   refine vwp_skip ?_
   refine hK6 _ ?_
   try clear hK6 K6
   refine vwp_seq_k fun K7 hK7 => ?_
   refine vwp_block ?_
   obtain ⟨w, hw⟩ := getI (l := ws) (i := i) (by omega)
   have hwl2 := hwl w (List.mem_of_getElem? hw)
   refine vwp_sq [0, 1, 2, 12, 13, 14] fun K8 hK8 => vwp_region hT ?_
   simp [hw]
   repeat refine ⟨by first | assumption | omega | (intros; omega), ?_⟩
   refine hK8 _ ?_
   try clear hK8 K8
   have hn4 := hd.n4
   have hrd := lread_spec g d n hd h (at_ + i) (by omega)
   obtain ⟨s, hs⟩ : ∃ s, s = d.sector (h * (n / 2) + (at_ + i)) := ⟨_, rfl⟩
   have hsl : s.length = 32 := by rw [hs]; exact sector_len hd (by omega)
   rw [← hs] at hrd
   obtain ⟨ai, hai⟩ : ∃ ai, ai = at_ + i := ⟨_, rfl⟩
   rw [← hai] at hrd
   have w1 : IntKind.i64.wrap ((at_ : Int) + (i : Int)) = (ai : Int) := (w64 (by omega) (by omega)).trans (by omega)
   refine vwp_sq [0, 1, 2, 9, 10, 12, 13, 14] fun K9 hK9 => vwp_region hT ?_
   simp [w1]
   refine vcall_k [0, 1, 2, 3] (hrd) ?_
   rintro r ob' ⟨rfl, rfl⟩
   simp [w1]
   refine hK9 _ ?_
   try clear hK9 K9
   refine vwp_seq_k fun K10 hK10 => ?_
   obtain ⟨a1, ha1⟩ : ∃ a1, a1 = s.take w.length := ⟨_, rfl⟩
   have ha1l : a1.length = w.length := by rw [ha1, List.length_take]; omega
   have ha1t : List.take w.length (bts s) = bts a1 := by rw [ha1, ← List.map_take]
   obtain ⟨a2, ha2⟩ : ∃ a2, a2 = s.drop w.length := ⟨_, rfl⟩
   have ha2l : a2.length = 32 - w.length := by rw [ha2, List.length_drop]; omega
   have ha2t : List.take (32 - w.length) (List.drop w.length (bts s)) = bts a2 := by rw [List.take_of_length_le (by simp; omega), ha2, ← List.map_drop]
   have heqs := bequal_spec a1 w (by omega) (by omega)
   have hbls := blank_spec a2 (by omega)
   have hst : stOne d (h * (n / 2) + (at_ + i)) w = (decide (a1 = w) && blankB a2) := by rw [stOne, ← hs, ← ha1, ← ha2]
   by_cases hew : a1 = w
   · have heqs1 := heqs
     rw [hew] at heqs1
     refine vwp_gh (Gh.freeze 4 (by rfl) (by intro c hc; simp at hc; obtain ⟨z, _, rfl⟩ := hc; rfl)) ?_
     refine vwp_gh (st' := ⟨[(0, .ptr 0 6 0), (1, .int .i64 h), (2, .int .i64 at_), (10, sB w), (11, sB s), (12, sBB ws), (13, .int .i64 ws.length), (14, .int .i64 (i : Int))], lobs g d n⟩) (Gh.to_k [0, 1, 2, 10, 11, 12, 13, 14] [0, 1, 2, 3] (he := by simp [hsl, List.take_of_length_le]) (hs := by simp [hsl])) ?_
     refine vwp_live [0, 1, 2, 10, 11, 12, 13, 14] (vwp_region hT ?_)
     simp [hsl, ha1t, ha2t, hew]
     repeat refine ⟨by first | assumption | omega | (intros; omega), ?_⟩
     refine vcall_k [] (heqs1) ?_
     rintro r ob' ⟨rfl, rfl⟩
     simp [hsl, ha1t, ha2t, hew]
     repeat refine ⟨by first | assumption | omega | (intros; omega), ?_⟩
     refine vcall_k [] (hbls) ?_ (ha := by simp [ha2l])
     rintro r ob' ⟨rfl, rfl⟩
     simp [hsl, ha1t, ha2t, hew]
     repeat refine ⟨by first | assumption | omega | (intros; omega), ?_⟩
     refine hK10 _ ?_
     try clear hK10 K10
     refine vwp_cond (by first | rfl | (simp; rfl)) (fun h2 => ?_) fun h2 => ?_
     · simp -failIfUnchanged at h2; all_goals
      have hbl : blankB a2 = false := by simpa using h2
      refine vwp_sq [] fun K11 hK11 => vwp_region hT ?_
      simp
      refine hK11 _ ?_
      try clear hK11 K11
      refine vwp_ret (hR _ _ ?_)
      have e := standB_no (n := n) (h := h) (at_ := at_) hw (by rw [hst, hbl]; simp)
      rw [e]
      exact ret_k [8] [0, 1, 2, 3] (lobs g d n) (.bool false) (⟨rfl, rfl⟩)
     · simp -failIfUnchanged at h2; all_goals
      have hbl : blankB a2 = true := by simpa using h2
      refine vwp_skip ?_
      refine hK7 _ ?_
      try clear hK7 K7
      have w1 : IntKind.i64.wrap ((i : Int) + 1) = i + 1 := w64 (by omega) (by omega)
      refine vwp_live [0, 1, 2, 12, 13, 14] (vwp_region hT ?_)
      simp [w1]
      exact hK4 (i + 1) _ (Gh.to_k [0, 1, 2, 12, 13, 14] [0, 1, 2, 3]) (⟨by omega, fun j z hj hz => by
        by_cases e : j = i
        · subst e; rw [hw] at hz; cases hz; rw [hst, hbl]; simp [hew]
        · exact hall j z (by omega) hz⟩) (by omega)
   · refine vwp_gh (Gh.freeze 4 (by rfl) (by intro c hc; simp at hc; obtain ⟨z, _, rfl⟩ := hc; rfl)) ?_
     refine vwp_gh (st' := ⟨[(0, .ptr 0 6 0), (1, .int .i64 h), (2, .int .i64 at_), (10, sB w), (11, sB s), (12, sBB ws), (13, .int .i64 ws.length), (14, .int .i64 (i : Int))], lobs g d n⟩) (Gh.to_k [0, 1, 2, 10, 11, 12, 13, 14] [0, 1, 2, 3] (he := by simp [hsl, List.take_of_length_le]) (hs := by simp [hsl])) ?_
     refine vwp_live [0, 1, 2, 10, 11, 12, 13, 14] (vwp_region hT ?_)
     simp [hsl, ha1t, ha2t, hew]
     repeat refine ⟨by first | assumption | omega | (intros; omega), ?_⟩
     refine vcall_k [] (heqs) ?_ (ha := by simp [ha1l])
     rintro r ob' ⟨rfl, rfl⟩
     simp [hsl, ha1t, ha2t, hew]
     repeat refine ⟨by first | assumption | omega | (intros; omega), ?_⟩
     refine hK10 _ ?_
     try clear hK10 K10
     refine vwp_cond (by first | rfl | (simp; rfl)) (fun h3 => ?_) fun h3 => ?_
     · simp -failIfUnchanged at h3; all_goals
      refine vwp_sq [] fun K12 hK12 => vwp_region hT ?_
      simp
      refine hK12 _ ?_
      try clear hK12 K12
      refine vwp_ret (hR _ _ ?_)
      have e := standB_no (n := n) (h := h) (at_ := at_) hw (by rw [hst]; simp [hew])
      rw [e]
      exact ret_k [8] [0, 1, 2, 3] (lobs g d n) (.bool false) (⟨rfl, rfl⟩)
     · simp -failIfUnchanged at h3; all_goals
      refine vwp_skip ?_
      refine hK7 _ ?_
      try clear hK7 K7
      simp at *
  · simp -failIfUnchanged at h1; all_goals
   refine vwp_exit ?_
   simp only [inBlk, thenQ, if_true]
   refine hK2 _ ?_
   try clear hK2 K2
   refine vwp_sq [] fun K13 hK13 => vwp_region hT ?_
   simp
   refine hK13 _ ?_
   try clear hK13 K13
   refine vwp_ret (hR _ _ ?_)
   have e : standB d n h at_ ws = true := standB_yes fun j w hw => hall j w (by have := (List.getElem?_eq_some_iff.1 hw).1; omega) hw
   rw [e]
   exact ret_k [8] [0, 1, 2, 3] (lobs g d n) (.bool true) (⟨rfl, rfl⟩)
end Go.Proofs.Ytifhbgppjblobaa
