/- A plan compared with one whose rows are its own: the walk. -/
import Derived.Test.YtinigjmfjabicaaPlC1
namespace Go.Proofs.Ytinigjmfjabicaa
open Go Go.VX Go.RowKit
set_option linter.unusedVariables false
set_option linter.unusedSimpArgs false
set_option maxHeartbeats 20000000
set_option maxRecDepth 100000

theorem rowsL_get (b : Nat) : ∀ (i0 : Nat) {l : List Rt} {i : Nat} {s : Rt}, l[i]? = some s → (rowsL b i0 l)[i * 2]? = some (.int .i64 s.tr) ∧ (rowsL b i0 l)[i * 2 + 1]? = some (.sl (idB b (i0 + i)) s.st.length 1 0 s.st.length)
  | i0, [], i, s, h => by simp at h
  | i0, a :: l, 0, s, h => by simp at h; subst h; exact ⟨rfl, rfl⟩
  | i0, a :: l, i + 1, s, h => by
    have := rowsL_get b (i0 + 1) (l := l) (i := i) (by simpa using h)
    rw [show i0 + 1 + i = i0 + (i + 1) by omega] at this
    rw [show (i + 1) * 2 = i * 2 + 2 by omega]
    exact this
/-- A store in which a plan lies. -/
structure Lies (ob : List Ob) (k b : Nat) (rs : List Rt) : Prop where
  rows : ob[k]? = some (.live (rowsL b 0 rs))
  st : ∀ i s, rs[i]? = some s → ob[idB b i]? = some (.live (ints s.st))
theorem equalq_spec (p : Pn) (hp : p.few) (ob : List Ob) (k b : Nat) (hq : Lies ob k b p.rs) : VC P 32 [.agg p.c, .agg [.sl k (p.rs.length * 2) 2 0 p.rs.length, sI p.un]] ob (fun r ob' => r = .bool true ∧ ob' = ob ++ [.live p.c, .live [.sl k (p.rs.length * 2) 2 0 p.rs.length, sI p.un]]) := by
  refine VC_of_vwp_k ent_32 Try.func32 rfl (by simp) fun R hR => ?_
  refine vwp_sq [0, 1] fun K1 hK1 => vwp_region hT ?_
  simp
  refine hK1 _ ?_
  try clear hK1 K1
  refine vwp_seq_k fun K2 hK2 => ?_
  have hk1 : ∀ m, (ob ++ m)[k]? = some (.live (rowsL b 0 p.rs)) := fun m => get_app hq.rows m
  have hrl := rowsL_len b 0 p.rs
  refine vwp_sq [2, 3] fun K3 hK3 => vwp_region hT ?_
  simp [hk1, hrl]
  refine vcall_z [] (same_spec p.un p.un (by have := hp.un; omega) (by have := hp.un; omega)) (by rintro r ob' ⟨rfl, rfl⟩; simp) ?_
  rintro r ob' ⟨rfl, rfl⟩
  simp [hk1, hrl]
  refine hK3 _ ?_
  try clear hK3 K3
  refine vwp_cond (by first | rfl | (simp; rfl)) (fun h1 => ?_) fun h1 => ?_
  · simp -failIfUnchanged at h1; all_goals
   refine vwp_seq_k fun K4 hK4 => ?_
   simp_all
  · simp -failIfUnchanged at h1; all_goals
   refine vwp_skip ?_
   refine hK2 _ ?_
   try clear hK2 K2
   refine vwp_seq_k fun K5 hK5 => ?_
   refine vwp_sq [2, 3] fun K6 hK6 => vwp_region hT ?_
   simp
   refine hK6 _ ?_
   try clear hK6 K6
   refine vwp_block ?_
   have hprs := hp.rs
   refine vwp_loop_s (fun i : Nat => ⟨[(2, .ptr ob.length 2 0), (3, .ptr (ob.length + 1) 2 0), (5, .int .i64 (i : Int))], ob ++ [.live p.c, .live [.sl k (p.rs.length * 2) 2 0 p.rs.length, sI p.un]]⟩) (fun i => i ≤ p.rs.length) (fun i => p.rs.length - i) 0 (Gh.pick [2, 3, 5]) (by omega) ?_
   rintro i hi
   intro K7 hK7
   refine vwp_seq_k fun K8 hK8 => ?_
   refine vwp_sq [2, 3, 5] fun K9 hK9 => vwp_region hT ?_
   simp
   refine hK9 _ ?_
   try clear hK9 K9
   refine vwp_cond (by first | rfl | (simp; rfl)) (fun h2 => ?_) fun h2 => ?_
   · simp -failIfUnchanged at h2; all_goals
    refine vwp_skip ?_
    refine hK8 _ ?_
    try clear hK8 K8
    refine vwp_seq_k fun K10 hK10 => ?_
    refine vwp_block ?_
    obtain ⟨s, hs⟩ := getI (l := p.rs) (i := i) (by omega)
    obtain ⟨hg0, hg1⟩ := getRt hs
    have hlen := lenRt p.rs
    have li : i * 2 + 1 < p.rs.length * 2 := by omega
    have hst : s.st.length < 1099511627776 := by
      have h1 := catR_le p.rs (i + 1)
      have h2 := hp.cat
      rw [catR_take hs, List.length_append] at h1
      omega
    obtain ⟨q0, q1⟩ := rowsL_get b 0 hs
    rw [Nat.zero_add] at q1
    have hb1 : ∀ m, (ob ++ m)[idB b i]? = some (.live (ints s.st)) := fun m => get_app (hq.st i s hs) m
    have htk : List.take s.st.length (ints s.st) = ints s.st := List.take_of_length_le (by simp)
    refine vwp_sq [2, 3, 5] fun K11 hK11 => vwp_calm hT hm (by kernel_rfl) ?_
    simp [hg0, hg1, hlen, q0, q1, hk1, hb1, hrl]
    repeat refine ⟨by first | assumption | omega | (intros; omega), ?_⟩
    refine ⟨.bool true, fun sl => ?_, ?_⟩
    · refine vcall_z [] (same_spec s.st s.st (by omega) (by omega)) (by rintro r ob' ⟨rfl, rfl⟩; simp) ?_ (ha := by simp [hb1, htk]) (hok := by simp [hb1])
      rintro r ob' ⟨rfl, rfl⟩
      simp
    simp [hg0, hg1, hlen, q0, q1, hk1, hb1, hrl]
    repeat refine ⟨by first | assumption | omega | (intros; omega), ?_⟩
    refine hK11 _ ?_
    try clear hK11 K11
    refine vwp_cond (by first | rfl | (simp; rfl)) (fun h3 => ?_) fun h3 => ?_
    · simp -failIfUnchanged at h3; all_goals
     refine vwp_seq_k fun K12 hK12 => ?_
     simp_all
    · simp -failIfUnchanged at h3; all_goals
     refine vwp_skip ?_
     refine hK10 _ ?_
     try clear hK10 K10
     have w1 : IntKind.i64.wrap ((i : Int) + 1) = i + 1 := w64 (by omega) (by omega)
     refine vwp_live [2, 3, 5] (vwp_region hT ?_)
     simp [w1]
     exact hK7 (i + 1) _ (Gh.pick [2, 3, 5]) (by omega) (by omega)
   · simp -failIfUnchanged at h2; all_goals
    refine vwp_exit ?_
    simp only [inBlk, thenQ, if_true]
    refine hK5 _ ?_
    try clear hK5 K5
    refine vwp_sq [] fun K13 hK13 => vwp_region hT ?_
    simp
    refine hK13 _ ?_
    try clear hK13 K13
    refine vwp_ret (hR _ _ ?_)
    exact ⟨_, Gh.refl _ _, by simp [retQ]⟩
end Go.Proofs.Ytinigjmfjabicaa
