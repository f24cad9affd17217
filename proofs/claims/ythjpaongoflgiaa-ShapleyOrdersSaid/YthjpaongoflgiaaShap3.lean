/- What the document tells of some orders. -/
import Derived.Test.YthjpaongoflgiaaShap2
namespace Go.Proofs.Ythjpaongoflgiaa
open Go Go.VX Go.RowKit
set_option linter.unusedVariables false
set_option linter.unusedSimpArgs false
set_option maxHeartbeats 20000000
set_option maxRecDepth 100000

theorem or_add : ∀ c, c < 64 → ∀ q, q < 6 → c.testBit q = false → c ||| p2 q = c + p2 q := by decide
theorem or_bit : ∀ c, c < 64 → ∀ q, q < 6 → ∀ j, j < 6 → (c ||| p2 q).testBit j = (c.testBit j || decide (q = j)) := by decide
theorem rangeI_nodup {m : Nat} : (rangeI m).Nodup := by
  unfold rangeI
  rw [List.Nodup, List.pairwise_map]
  exact (List.nodup_range (n := m)).imp fun h e => h (by omega)
/-- Whom a coalition has. -/
def has (m c : Nat) (l : List Int) : Prop := ∀ j, j < m → c.testBit j = true → (j : Int) ∈ l
theorem not_in_take {l : List Int} (hn : l.Nodup) {k : Nat} {x : Int} (h : l[k]? = some x) : x ∉ l.take k := by
  intro hm
  obtain ⟨hk, rfl⟩ := List.getElem?_eq_some_iff.1 h
  obtain ⟨i, hi, he⟩ := List.getElem_of_mem hm
  simp only [List.length_take] at hi
  rw [List.getElem_take] at he
  exact List.pairwise_iff_getElem.1 hn i k (by omega) hk (by omega) he
theorem oadd_spec (m : Nat) (g l o0 : List Int) (i : Nat) (hm6 : m ≤ 6) (hgl : g.length = p2 m) (hgb : ∀ (j : Nat) y, g[j]? = some y → -1099511627776 ≤ y ∧ y ≤ 1099511627776) (hbl : isB (m : Int) l = true) (hi : i ≤ 1000) (hol : o0.length = m)
  (hb : ∀ (j : Nat) v, o0[j]? = some v → -((i : Int) * 13194139533312) ≤ v ∧ v ≤ (i : Int) * 13194139533312) : VC P 47 [.int .i64 m, sI g, sI l, .sl 0 m 1 0 m] [.live (o0.map (.int .i64))] (fun r ob' => r = .sl 1 m 1 0 m ∧ ob' = [.live (o0.map (.int .i64)), .live ((oneO g o0 l).map (.int .i64))]) := by
  refine VC_of_vwp_k ent_47 Try.func47 rfl (by simp) fun R hR => ?_
  have hlm := (isB_perm hbl).1
  have hnd : l.Nodup := (isB_perm hbl).2.nodup_iff.2 rangeI_nodup
  refine vwp_sq [1, 2, 3] fun K1 hK1 => vwp_region hT ?_
  simp
  refine hK1 _ ?_
  try clear hK1 K1
  refine vwp_sq [1, 2, 3] fun K2 hK2 => vwp_region hT ?_
  simp [hol]
  repeat refine ⟨by first | assumption | omega | (intros; omega), ?_⟩
  refine hK2 _ ?_
  try clear hK2 K2
  refine vwp_sq [1, 2, 9] fun K3 hK3 => vwp_region hT ?_
  simp
  refine hK3 _ ?_
  try clear hK3 K3
  refine vwp_seq_k fun K4 hK4 => ?_
  refine vwp_sq [1, 2, 9, 10] fun K5 hK5 => vwp_region hT ?_
  simp
  refine hK5 _ ?_
  try clear hK5 K5
  refine vwp_block ?_
  refine vwp_loop_s (fun y : Nat × Nat × List Int => ⟨[(1, sI g), (2, sI l), (9, .sl 1 m 1 0 m), (10, .int .i64 (y.2.1 : Int)), (11, .int .i64 (y.1 : Int))], [.live (o0.map (.int .i64)), .live (y.2.2.map (.int .i64))]⟩) (fun y => y.1 ≤ l.length ∧ (l.take y.1).foldl (stp g) (0, o0) = (y.2.1, y.2.2) ∧ y.2.1 < p2 m ∧ y.2.2.length = m ∧ has m y.2.1 (l.take y.1) ∧ ∀ (j : Nat) v, y.2.2[j]? = some v → -((i : Int) * 13194139533312 + (y.1 : Int) * 2199023255552) ≤ v ∧ v ≤ (i : Int) * 13194139533312 + (y.1 : Int) * 2199023255552) (fun y => l.length - y.1) ((0, 0, o0)) (Gh.to_k [1, 2, 9, 10, 11] [0, 1] (hh := by simp; exact List.take_of_length_le (by simp; omega))) (⟨by simp, by simp, p2_pos m, hol, fun j h1 h2 => by simp at h2, fun j v h => by have := hb j v h; simp only; omega⟩) ?_
  rintro ⟨k, c, o⟩ ⟨hk, hf, hc, hol2, hhas, hb2⟩
  dsimp only at hk hf hc hol2 hhas hb2 ⊢
  intro K6 hK6
  refine vwp_seq_k fun K7 hK7 => ?_
  refine vwp_sq [1, 2, 9, 10, 11] fun K8 hK8 => vwp_region hT ?_
  simp
  refine hK8 _ ?_
  try clear hK8 K8
  refine vwp_cond (by first | rfl | (simp; rfl)) (fun h1 => ?_) fun h1 => ?_
  · simp -failIfUnchanged at h1; all_goals
   refine vwp_skip ?_
   refine hK7 _ ?_
   try clear hK7 K7
   refine vwp_seq_k fun K9 hK9 => ?_
   refine vwp_block ?_
   obtain ⟨p, hp⟩ := getI (l := l) (i := k) (by omega)
   obtain ⟨q, rfl, hq2⟩ := isB_mem hbl (List.mem_of_getElem? hp)
   obtain ⟨v, hv⟩ := getI (l := o) (i := q) (by omega)
   have hor := or_lt hc hq2
   obtain ⟨a, ha⟩ := getI (l := g) (i := c ||| p2 q) (by omega)
   obtain ⟨b, hbb⟩ := getI (l := g) (i := c) (by omega)
   have hga := hgb _ a ha
   have hgb2 := hgb _ b hbb
   have hv2 := hb2 q v hv
   have hpm := p2_le m hm6
   have hpq := p2_le q (by omega)
   have htb : c.testBit q = false := by
     cases h : c.testBit q with
     | false => rfl
     | true => exact absurd (hhas q hq2 h) (not_in_take hnd hp)
   have hoa := or_add c (by omega) q (by omega) htb
   have w2 : IntKind.i64.wrap ((c : Int) + p2 q) = ((c ||| p2 q : Nat) : Int) := by
     rw [hoa]; exact (w64 (by omega) (by omega)).trans (by omega)
   have w4 : IntKind.i64.wrap (v + a) = v + a := w64 (by omega) (by omega)
   have w5 : IntKind.i64.wrap (v + a - b) = v + (a - b) := (w64 (by omega) (by omega)).trans (by omega)
   refine vwp_sq [1, 2, 9, 10, 11] fun K10 hK10 => vwp_region hT ?_
   simp [hp, w2]
   repeat refine ⟨by first | assumption | omega | (intros; omega), ?_⟩
   refine vcall_k [] (many_spec q (by omega)) ?_
   rintro r ob' ⟨rfl, rfl⟩
   simp [hp, w2]
   repeat refine ⟨by first | assumption | omega | (intros; omega), ?_⟩
   refine hK10 _ ?_
   try clear hK10 K10
   refine vwp_sq [1, 2, 9, 10, 11, 12] fun K11 hK11 => vwp_storm hT hm [.pure, .pure, .pure, .win 0 0, .win 0 0, .pure, .pure, .pure, .win 0 0, .win 0 0, .win 0 0, .win 0 0, .pure, .pure, .win 0 0, .win 0 0, .win 0 0, .pure, .pure, .win 0 0, .win 0 0, .win 0 0, .win 0 0, .mv] [[], [], [], [1, 2], [1, 2, 3], [], [], [], [6, 7], [6, 7, 8], [5, 6, 7, 8, 9], [5, 6, 7, 8, 9, 10], [], [], [12, 13], [12, 13, 14], [5, 6, 7, 8, 9, 10, 11, 12, 13, 14, 15], [], [], [17, 18], [17, 18, 19], [5, 6, 7, 8, 9, 10, 11, 12, 13, 14, 15, 16, 17, 18, 19, 20], [0, 1, 2, 3, 4, 5, 6, 7, 8, 9, 10, 11, 12, 13, 14, 15, 16, 17, 18, 19, 20, 21], [0, 1, 2, 3, 4, 5, 6, 7, 8, 9, 10, 11, 12, 13, 14, 15, 16, 17, 18, 19, 20, 21, 22]] (by kernel_rfl) ?_
   simp [hp, w4, w5, hv, ha, hbb, hol2]
   repeat refine ⟨by first | assumption | omega | (intros; omega), ?_⟩
   refine hK11 _ ?_
   try clear hK11 K11
   refine vwp_live [1, 2, 9, 11, 12] (vwp_region hT ?_)
   simp
   refine hK9 _ ?_
   try clear hK9 K9
   have w6 : IntKind.i64.wrap ((k : Int) + 1) = k + 1 := w64 (by omega) (by omega)
   refine vwp_live [1, 2, 9, 10, 11] (vwp_region hT ?_)
   simp [w6]
   exact hK6 ((k + 1, c ||| p2 q, o.set q (v + (a - b)))) _ (Gh.to_k [1, 2, 9, 10, 11] [0, 1] (hh := by simp [spl_set (l := o) (q := q) (by omega)])) (⟨by dsimp only; omega, by
       dsimp only
       rw [take_foldl hp, hf]
       simp only [stp, Int.toNat_natCast, getD_of hv, getD_of ha, getD_of hbb], hor, by simpa using hol2, fun j hj hbit => by
       dsimp only at hbit ⊢
       rw [or_bit c (by omega) q (by omega) j (by omega)] at hbit
       rw [List.take_add_one, hp]
       simp only [Bool.or_eq_true, decide_eq_true_eq] at hbit
       rcases hbit with h | h
       · exact List.mem_append.2 (.inl (hhas j hj h))
       · subst h; simp, fun j z hz => by
       dsimp only at hz ⊢
       rw [List.getElem?_set] at hz
       split at hz
       · split at hz
         · cases hz; omega
         · cases hz
       · have := hb2 j z hz; omega⟩) (by dsimp only; omega)
  · simp -failIfUnchanged at h1; all_goals
   refine vwp_exit ?_
   simp only [inBlk, thenQ, if_true]
   refine hK4 _ ?_
   try clear hK4 K4
   refine vwp_sq [9] fun K12 hK12 => vwp_region hT ?_
   simp
   refine hK12 _ ?_
   try clear hK12 K12
   refine vwp_ret (hR _ _ ?_)
   have e : k = l.length := by omega
   subst e
   rw [List.take_length] at hf
   have e2 : oneO g o0 l = o := by simp only [oneO, hf]
   rw [e2]
   exact ret_k [8] [0, 1] ([.live (o0.map (.int .i64)), .live (o.map (.int .i64))]) (.sl 1 m 1 0 m) (⟨rfl, rfl⟩)
end Go.Proofs.Ythjpaongoflgiaa
