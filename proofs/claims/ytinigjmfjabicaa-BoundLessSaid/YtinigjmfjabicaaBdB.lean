/- A bound's worth, and what leads to an order: the walk. -/
import Derived.Test.YtinigjmfjabicaaBdA
namespace Go.Proofs.Ytinigjmfjabicaa
open Go Go.VX Go.RowKit
set_option linter.unusedVariables false
set_option linter.unusedSimpArgs false
set_option maxHeartbeats 20000000
set_option maxRecDepth 100000

structure Ct where (ids inn : List Int) (ba ra fx bo : Int)
abbrev Ct.c (x : Ct) : List V := [sI x.ids, sI x.inn, .int .i64 x.ba, .int .i64 x.ra, .int .i64 x.fx, .int .i64 x.bo]
/-- The nodes from which an order may be come to. -/
def inL (l : List Od) (i : Nat) : List Int := 0 :: (l.eraseIdx i).map (·.nd)
def inP (w : Wd) (l : List Od) (i : Nat) (o : Od) : Int := lea ((inL l i).map fun f => lg w.n w.D f o.nd)
theorem erase_take {l : List Od} {j a : Nat} {x : Od} (h : l[j]? = some x) : (l.take (j + 1)).eraseIdx a = (l.take j).eraseIdx a ++ (if j = a then [] else [x]) := by
  have hj := (List.getElem?_eq_some_iff.1 h).1
  have hl : (l.take j).length = j := by rw [List.length_take]; omega
  rw [take_snoc h]
  rcases Nat.lt_or_ge a j with q | q
  · rw [List.eraseIdx_append_of_lt_length (by omega), if_neg (by omega)]
  · rw [List.eraseIdx_append_of_length_le (by omega), hl]
    have h2 : (l.take j).eraseIdx a = l.take j := List.eraseIdx_of_length_le (by omega)
    rw [h2]
    by_cases e : j = a
    · subst e; simp
    · rw [if_neg e, List.eraseIdx_of_length_le (by simp; omega)]
def inJ (l : List Od) (a j : Nat) : List Int := 0 :: ((l.take j).eraseIdx a).map (·.nd)
theorem inJ_zero (l : List Od) (a : Nat) : inJ l a 0 = [0] := by simp [inJ]
theorem inJ_len (l : List Od) (a j : Nat) : (inJ l a j).length ≤ j + 1 := by
  have := List.length_eraseIdx_le (l.take j) a
  rw [List.length_take] at this
  simp [inJ]; omega
theorem inJ_all (l : List Od) (a : Nat) : inJ l a l.length = inL l a := by rw [inJ, List.take_length, inL]
theorem inJ_step {l : List Od} {j a : Nat} {x : Od} (h : l[j]? = some x) : inJ l a (j + 1) = inJ l a j ++ (if j = a then [] else [x.nd]) := by
  rw [inJ, erase_take h, inJ]
  split <;> simp
theorem in_bspec (w : Wd) (hA : areaB w.n w.D w.T = true) (l : List Od) (hl : l.length < 109951162777) (hno : ∀ o ∈ l, 0 ≤ o.nd ∧ o.nd < w.n) (a : Nat) (o : Od) (ho2 : l[a]? = some o) : VC P 40 [.agg (arC w.n w.D w.T), odV l, .int .i64 (a : Int)] [] (fun r ob' => r = .int .i64 (inP w l a o) ∧ ob' = []) := by
  refine VC_of_vwp_k ent_40 Try.func40 rfl (by simp) fun R hR => ?_
  refine vwp_sq [0, 1, 2] fun K1 hK1 => vwp_region hT ?_
  simp
  refine hK1 _ ?_
  try clear hK1 K1
  refine vwp_sq [3, 4, 5] fun K2 hK2 => vwp_region hT ?_
  simp
  refine hK2 _ ?_
  try clear hK2 K2
  refine vwp_seq_k fun K3 hK3 => ?_
  refine vwp_sq [3, 4, 5, 7] fun K4 hK4 => vwp_region hT ?_
  simp
  refine hK4 _ ?_
  try clear hK4 K4
  refine vwp_block ?_
  refine vwp_loop_s (fun j : Nat => ⟨[(3, .ptr 0 3 0), (4, .ptr 1 1 0), (5, .ptr 2 1 0), (7, .sl 3 (inJ l a j).length 1 0 (inJ l a j).length), (11, odV l), (12, .int .i64 l.length), (13, .int .i64 (j : Int))], [.live (arC w.n w.D w.T), .live [odV l], .live [.int .i64 (a : Int)], .live (ints (inJ l a j))]⟩) (fun j => j ≤ l.length) (fun j => l.length - j) (0) (Gh.to_k [3, 4, 5, 7, 11, 12, 13] [0, 1, 2, 3] (he := by simp [inJ_zero]) (hh := by simp [inJ_zero])) (by omega) ?_
  rintro j hj
  have hle := inJ_len l a j
  intro K5 hK5
  refine vwp_sq [3, 4, 5, 7, 11, 12, 13] fun K6 hK6 => vwp_region hT ?_
  simp
  refine hK6 _ ?_
  try clear hK6 K6
  refine vwp_seq_k fun K7 hK7 => ?_
  refine vwp_cond (by first | rfl | (simp; rfl)) (fun h1 => ?_) fun h1 => ?_
  · simp -failIfUnchanged at h1; all_goals
   refine vwp_skip ?_
   refine hK7 _ ?_
   try clear hK7 K7
   refine vwp_seq_k fun K8 hK8 => ?_
   refine vwp_block ?_
   obtain ⟨s, hs⟩ := getI (l := l) (i := j) (by omega)
   have hrow := rowOd hs
   have hlen := lenOd l
   have het0 := inJ_step (a := a) hs
   refine vwp_sq [3, 4, 5, 7, 11, 12, 13] fun K9 hK9 => vwp_region hT ?_
   simp [hrow, hlen]
   repeat refine ⟨by first | assumption | omega | (intros; omega), ?_⟩
   refine hK9 _ ?_
   try clear hK9 K9
   refine vwp_sq [3, 4, 5, 7, 8, 9, 11, 12, 13] fun K10 hK10 => vwp_region hT ?_
   simp
   refine hK10 _ ?_
   try clear hK10 K10
   refine vwp_cond (by first | rfl | (simp; rfl)) (fun h2 => ?_) fun h2 => ?_
   · simp -failIfUnchanged at h2; all_goals
    have q := h2
    have het := het0
    rw [if_neg (by omega)] at het
    refine vwp_live [3, 4, 5, 7, 9, 11, 12, 13] (vwp_region hT ?_)
    simp
    repeat refine ⟨by first | assumption | omega | (intros; omega), ?_⟩
    refine hK8 _ ?_
    try clear hK8 K8
    have w1 : IntKind.i64.wrap ((j : Int) + 1) = j + 1 := w64 (by omega) (by omega)
    refine vwp_live [3, 4, 5, 7, 11, 12, 13] (vwp_region hT ?_)
    simp [w1]
    exact hK5 (j + 1) _ (Gh.to_k [3, 4, 5, 7, 11, 12, 13] [0, 1, 2, 3] (he := by simp [het]) (hh := by simp [het])) (by omega) (by omega)
   · simp -failIfUnchanged at h2; all_goals
    have q := h2
    have het := het0
    rw [if_pos (by omega)] at het
    refine vwp_skip ?_
    refine hK8 _ ?_
    try clear hK8 K8
    have w1 : IntKind.i64.wrap ((j : Int) + 1) = j + 1 := w64 (by omega) (by omega)
    refine vwp_live [3, 4, 5, 7, 11, 12, 13] (vwp_region hT ?_)
    simp [w1]
    exact hK5 (j + 1) _ (Gh.to_k [3, 4, 5, 7, 11, 12, 13] [0, 1, 2, 3] (he := by simp [het]) (hh := by simp [het])) (by omega) (by omega)
  · simp -failIfUnchanged at h1; all_goals
   refine vwp_exit ?_
   simp only [inBlk, thenQ, if_true]
   refine hK3 _ ?_
   try clear hK3 K3
   obtain rfl : j = l.length := by omega
   rw [inJ_all] at hle ⊢
   have hIn : ∀ f ∈ inL l a, 0 ≤ f ∧ f < w.n := by
     intro f hf
     rcases List.mem_cons.1 hf with rfl | hf
     · exact ⟨by omega, by have := areaB_n hA; omega⟩
     · obtain ⟨o2, h1, rfl⟩ := List.mem_map.1 hf
       exact hno o2 (List.mem_of_mem_eraseIdx h1)
   have htk : List.take (inL l a).length (ints (inL l a)) = ints (inL l a) := List.take_of_length_le (by simp)
   refine vwp_sq [3, 4, 5, 7] fun K11 hK11 => vwp_region hT ?_
   simp
   refine vcall_z [] (least_in (inL l a) (by omega) hA l (by omega) a o ho2 (hno o (List.mem_of_getElem? ho2)) hIn) (by rintro r ob' ⟨rfl, rfl⟩; simp) ?_ (ha := by simp [htk]) (hok := by simp)
   rintro r ob' ⟨rfl, rfl⟩
   simp
   refine hK11 _ ?_
   try clear hK11 K11
   refine vwp_ret (hR _ _ ?_)
   exact ret_k [6] [] ([]) (.int .i64 (inP w l a o)) (⟨rfl, rfl⟩) (hr := by simp [inP])
theorem clonei_raw (l : List Int) (hl : l.length < 1099511627776) : VC P 76 [sI l] [] (fun r ob' => (r = .sl 0 l.length 1 0 l.length ∧ ob' = [.live (ints l)]) ∨ (l = [] ∧ r = .nils ∧ ob' = [])) := by
  refine VC_of_vwp_k ent_76 Try.func76 rfl (by simp) fun R hR => ?_
  refine vwp_sq [0] fun K1 hK1 => vwp_region hT ?_
  simp
  refine hK1 _ ?_
  try clear hK1 K1
  refine vwp_seq_k fun K2 hK2 => ?_
  refine vwp_seq_k fun K3 hK3 => ?_
  by_cases hne : l = []
  · subst hne
    refine vwp_live [0] (vwp_regionA hT ?_)
    simp
    refine ⟨?_, ?_⟩
    · refine hK3 _ ?_
      try clear hK3 K3
      refine vwp_cond (by first | rfl | (simp; rfl)) (fun h1 => ?_) fun h1 => ?_
      · simp -failIfUnchanged at h1; all_goals
       refine vwp_seq_k fun K4 hK4 => ?_
       simp_all
      · simp -failIfUnchanged at h1; all_goals
       refine vwp_skip ?_
       refine hK2 _ ?_
       try clear hK2 K2
       refine vwp_sq [0] fun K5 hK5 => vwp_region hT ?_
       simp
       repeat refine ⟨by first | assumption | omega | (intros; omega), ?_⟩
       refine hK5 _ ?_
       try clear hK5 K5
       refine vwp_ret (hR _ _ ?_)
       exact ret_k [2] [0] ([.live []]) (.sl 0 0 1 0 0) (.inl ⟨rfl, rfl⟩)
    · repeat refine ⟨by first | assumption | omega | (intros; omega), ?_⟩
      refine hK3 _ ?_
      try clear hK3 K3
      refine vwp_cond (by first | rfl | (simp; rfl)) (fun h2 => ?_) fun h2 => ?_
      · simp -failIfUnchanged at h2; all_goals
       refine vwp_sq [] fun K6 hK6 => vwp_region hT ?_
       simp
       refine hK6 _ ?_
       try clear hK6 K6
       refine vwp_ret (hR _ _ ?_)
       exact ret_k [2] [] ([]) (.nils) (.inr ⟨rfl, rfl, rfl⟩)
      · simp -failIfUnchanged at h2; all_goals
       refine vwp_skip ?_
       refine hK2 _ ?_
       try clear hK2 K2
       refine vwp_seq_k fun K7 hK7 => ?_
       simp_all
  · have hl0 : l.length ≠ 0 := fun e => hne (List.length_eq_zero_iff.1 e)
    refine vwp_live [0] (vwp_region hT ?_)
    simp [hl0]
    refine hK3 _ ?_
    try clear hK3 K3
    refine vwp_cond (by first | rfl | (simp; rfl)) (fun h3 => ?_) fun h3 => ?_
    · simp -failIfUnchanged at h3; all_goals
     refine vwp_seq_k fun K8 hK8 => ?_
     simp at *
    · simp -failIfUnchanged at h3; all_goals
     refine vwp_skip ?_
     refine hK2 _ ?_
     try clear hK2 K2
     refine vwp_sq [0] fun K9 hK9 => vwp_region hT ?_
     simp
     repeat refine ⟨by first | assumption | omega | (intros; omega), ?_⟩
     refine hK9 _ ?_
     try clear hK9 K9
     refine vwp_ret (hR _ _ ?_)
     exact ret_k [2] [0] ([.live (ints l)]) (.sl 0 l.length 1 0 l.length) (.inl ⟨rfl, rfl⟩)

theorem clonei_spec (l : List Int) (hl : l.length < 1099511627776) : VC P 76 [sI l] [] (fun r ob' => r = .sl 0 l.length 1 0 l.length ∧ ob' = [.live (ints l)]) :=
  VC.virt (clonei_raw l hl) fun r ob' q => by
    rcases q with q | ⟨rfl, rfl, rfl⟩
    · exact .inl q
    · exact .inr (.inl ⟨rfl, rfl, rfl⟩)

structure Ct.fine (x : Ct) : Prop where
  len : x.inn.length ≤ 200
  inn : ∀ n ∈ x.inn, 0 ≤ n ∧ n ≤ 1000000
  ba : 0 ≤ x.ba ∧ x.ba ≤ 1000000
  ra : 0 ≤ x.ra ∧ x.ra ≤ 1000
  fx : 0 ≤ x.fx ∧ x.fx ≤ 1000000
def Ct.worth (x : Ct) : Int := x.fx + x.ra * (x.inn.sum + x.ba)
theorem Ct.fine.all {x : Ct} (h : x.fine) : 0 ≤ x.inn.sum + x.ba ∧ x.inn.sum + x.ba ≤ 201000000 := by
  have h1 := sum_bounds2 h.inn
  have h2 := h.len
  have h3 := h.ba
  omega
theorem worth_spec (x : Ct) (hx : x.fine) : VC P 47 [.agg x.c] [] (fun r ob' => r = .int .i64 x.worth ∧ ob' = []) := by
  refine VC_of_vwp_k ent_47 Try.func47 rfl (by simp) fun R hR => ?_
  refine vwp_sq [0] fun K1 hK1 => vwp_region hT ?_
  simp
  refine hK1 _ ?_
  try clear hK1 K1
  have hln := hx.len
  have hb := hx.all
  have hra := hx.ra
  have hfx := hx.fx
  have hsn : sumN (x.inn ++ [x.ba]) = (x.inn.sum + x.ba, 0) := by
    have := sumN_small (l := x.inn ++ [x.ba]) (m := 1000000) (fun n hn => by
      rcases List.mem_append.1 hn with h | h
      · exact hx.inn n h
      · simp at h; subst h; exact hx.ba) (by simp; omega)
    rw [this]; simp
  obtain ⟨al, hal⟩ : ∃ al, al = x.inn.sum + x.ba := ⟨_, rfl⟩
  rw [← hal] at hb hsn
  have htk : List.take (x.inn.length + 1) (ints x.inn ++ [.int .i64 x.ba]) = ints (x.inn ++ [x.ba]) := by rw [List.take_of_length_le (by simp)]; simp
  have hmu := mul_small (a := x.ra) (b := al) (by omega) (by omega) (by omega) (by omega)
  have had : addN x.fx (x.ra * al) = (x.fx + x.ra * al, 0) := by
    have a1 : mayN x.fx = true := by simp [mayN]; omega
    have a2 : mayN (x.ra * al) = true := by simp [mayN]; omega
    have a3 : mayN (x.fx + x.ra * al) = true := by simp [mayN]; omega
    simp [addN, a1, a2, a3]
  refine vwp_sq [1] fun K2 hK2 => vwp_storm hT hm [.win 0 0, .win 0 0, .mv, .win 0 1, .win 0 1, .lit, .mv, .mv, .pure, .pure, .pure, .pure, .pure] [[], [0], [0, 1], [], [3], [3, 4], [0, 1, 2, 3, 4, 5], [0, 1, 2, 3, 4, 5, 6], [0, 1, 2, 3, 4, 5, 6, 7], [0, 1, 2, 3, 4, 5, 6, 7, 8], [0, 1, 2, 3, 4, 5, 6, 7, 8], [0, 1, 2, 3, 4, 5, 6, 7, 8, 9], [0, 1, 2, 3, 4, 5, 6, 7, 8, 9, 10, 11]] (by kernel_rfl) ?_
  simp [htk]
  repeat refine ⟨by first | assumption | omega | (intros; omega), ?_⟩
  refine ⟨.sl 1 x.inn.length 1 0 x.inn.length, [.live x.c, .live (ints (x.inn))], fun sl => ?_, ?_⟩
  · refine vcall_z [] (clonei_spec x.inn (by omega)) (by rintro r ob' ⟨rfl, rfl⟩; simp) ?_
    rintro r ob' ⟨rfl, rfl⟩
    simp
  simp [htk]
  repeat refine ⟨by first | assumption | omega | (intros; omega), ?_⟩
  refine ⟨.tup [.int .i64 al, .int .i64 0], [.live x.c, .live (ints (x.inn ++ [x.ba]))], fun sl => ?_, ?_⟩
  · refine vcall_z [] (sum_spec (x.inn ++ [x.ba]) (by simp; omega)) (by rw [hsn]; rintro r ob' ⟨rfl, rfl⟩; simp) ?_ (ha := by simp [htk]) (hok := by simp; rintro c (⟨a, _, rfl⟩ | rfl) <;> rfl)
    rw [hsn]
    rintro r ob' ⟨rfl, rfl⟩
    simp
  simp [htk]
  repeat refine ⟨by first | assumption | omega | (intros; omega), ?_⟩
  refine hK2 _ ?_
  try clear hK2 K2
  refine vwp_seq_k fun K3 hK3 => ?_
  refine vwp_sq [1, 3, 4] fun K4 hK4 => vwp_region hT ?_
  simp
  refine hK4 _ ?_
  try clear hK4 K4
  refine vwp_cond (by first | rfl | (simp; rfl)) (fun h1 => ?_) fun h1 => ?_
  · simp -failIfUnchanged at h1; all_goals
   refine vwp_seq_k fun K5 hK5 => ?_
   simp_all
  · simp -failIfUnchanged at h1; all_goals
   refine vwp_skip ?_
   refine hK3 _ ?_
   try clear hK3 K3
   refine vwp_sq [1, 3] fun K6 hK6 => vwp_region hT ?_
   simp
   refine vcall_z [] (mul_spec x.ra al (by omega) (by omega) (by omega) (by omega)) (by rintro r ob' ⟨rfl, rfl⟩; simp) ?_
   rintro r ob' ⟨rfl, rfl⟩
   simp
   refine hK6 _ ?_
   try clear hK6 K6
   refine vwp_seq_k fun K7 hK7 => ?_
   refine vwp_sq [1, 4, 5] fun K8 hK8 => vwp_region hT ?_
   simp
   refine hK8 _ ?_
   try clear hK8 K8
   refine vwp_cond (by first | rfl | (simp; rfl)) (fun h2 => ?_) fun h2 => ?_
   · simp -failIfUnchanged at h2; all_goals
    refine vwp_seq_k fun K9 hK9 => ?_
    simp_all
   · simp -failIfUnchanged at h2; all_goals
    refine vwp_skip ?_
    refine hK7 _ ?_
    try clear hK7 K7
    refine vwp_sq [1, 5] fun K10 hK10 => vwp_region hT ?_
    simp [had]
    refine vcall_z [] (add_spec x.fx (x.ra * al)) (by rintro r ob' ⟨rfl, rfl⟩; simp) ?_
    rintro r ob' ⟨rfl, rfl⟩
    simp [had]
    refine hK10 _ ?_
    try clear hK10 K10
    refine vwp_sq [5] fun K11 hK11 => vwp_region hT ?_
    simp
    refine hK11 _ ?_
    try clear hK11 K11
    refine vwp_ret (hR _ _ ?_)
    exact ret_k [2] [] ([]) (.int .i64 (x.fx + x.ra * al)) (⟨by rw [Ct.worth, hal], rfl⟩)
theorem bwithin_spec (a b : Int) : VC P 55 [.int .i64 a, .int .i64 b] [] (fun r ob' => r = .bool (decide (0 ≤ a ∧ a ≤ b)) ∧ ob' = []) := by
  refine VC_of_vwp_k ent_55 Try.func55 rfl (by simp) fun R hR => ?_
  refine vwp_sq [0, 1] fun K1 hK1 => vwp_region hT ?_
  simp
  refine hK1 _ ?_
  try clear hK1 K1
  refine vwp_sq [0, 1] fun K2 hK2 => vwp_region hT ?_
  simp
  refine hK2 _ ?_
  try clear hK2 K2
  refine vwp_ret (hR _ _ ?_)
  exact ret_k [4] [] ([]) (.bool (decide (0 ≤ a ∧ a ≤ b))) (⟨rfl, rfl⟩) (hr := by simp [Bool.decide_and])
end Go.Proofs.Ytinigjmfjabicaa
