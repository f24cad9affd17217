/- A plan of its own, live: the walk. -/
import Derived.Test.YtinigjmfjabicaaPlW
import Derived.Test.YtinigjmfjabicaaVXc
namespace Go.Proofs.Ytinigjmfjabicaa
open Go Go.VX Go.RowKit
set_option linter.unusedVariables false
set_option linter.unusedSimpArgs false
set_option maxHeartbeats 20000000
set_option maxRecDepth 100000

def idB (b i : Nat) : Nat := b + 3 * i + 1
/-- The cells of routes whose stops lie in objects of their own, and these objects (with what is left behind). -/
def rowsL (b : Nat) : Nat → List Rt → List V
  | _, [] => []
  | i, s :: l => .int .i64 s.tr :: .sl (idB b i) s.st.length 1 0 s.st.length :: rowsL b (i + 1) l
def blk (b : Nat) : Nat → List Rt → List Ob
  | _, [] => []
  | i, s :: l => .live (Rt.cells s) :: .live (ints s.st) :: .live [.int .i64 s.tr, .sl (idB b i) s.st.length 1 0 s.st.length] :: blk b (i + 1) l
theorem rowsL_snoc (b : Nat) (s : Rt) : ∀ (i : Nat) (l : List Rt), rowsL b i (l ++ [s]) = rowsL b i l ++ [.int .i64 s.tr, .sl (idB b (i + l.length)) s.st.length 1 0 s.st.length]
  | i, [] => by simp [rowsL]
  | i, a :: l => by
    simp only [List.cons_append, rowsL, rowsL_snoc b s (i + 1) l, List.length_cons]
    rw [show i + 1 + l.length = i + (l.length + 1) by omega]
theorem blk_snoc (b : Nat) (s : Rt) : ∀ (i : Nat) (l : List Rt), blk b i (l ++ [s]) = blk b i l ++ [.live (Rt.cells s), .live (ints s.st), .live [.int .i64 s.tr, .sl (idB b (i + l.length)) s.st.length 1 0 s.st.length]]
  | i, [] => by simp [blk]
  | i, a :: l => by
    simp only [List.cons_append, blk, blk_snoc b s (i + 1) l, List.length_cons]
    rw [show i + 1 + l.length = i + (l.length + 1) by omega]
theorem rowsL_len (b : Nat) : ∀ (i : Nat) (l : List Rt), (rowsL b i l).length = l.length * 2
  | i, [] => rfl
  | i, a :: l => by simp only [rowsL, List.length_cons, rowsL_len b (i + 1) l]; omega
theorem blk_len (b : Nat) : ∀ (i : Nat) (l : List Rt), (blk b i l).length = 3 * l.length
  | i, [] => rfl
  | i, a :: l => by simp only [blk, List.length_cons, blk_len b (i + 1) l]; omega
theorem copyl_spec (p : Pn) (hp : p.few) : VC P 24 [.agg p.c] [] (fun r ob' => r = .agg [.sl 3 (p.rs.length * 2) 2 0 p.rs.length, sI p.un] ∧ ob' = .live p.c :: .live [.sl 3 (p.rs.length * 2) 2 0 p.rs.length, sI p.un] :: .live [.sl 3 (p.rs.length * 2) 2 0 p.rs.length, sI p.un] :: .live (rowsL 4 0 p.rs) :: blk 4 0 p.rs) := by
  refine VC_of_vwp_c hT ent_24 Try.func24 rfl (by simp) fun R hR => ?_
  refine vwp_sq [0] fun K1 hK1 => vwp_region hT ?_
  simp
  refine hK1 _ ?_
  try clear hK1 K1
  refine vwp_sq [1, 2] fun K2 hK2 => vwp_region hT ?_
  simp
  repeat refine ⟨by first | assumption | omega | (intros; omega), ?_⟩
  refine vcall_k [] (clonef_spec p.un hp.un) ?_
  rintro r ob' ⟨rfl, rfl⟩
  simp
  repeat refine ⟨by first | assumption | omega | (intros; omega), ?_⟩
  refine hK2 _ ?_
  try clear hK2 K2
  refine vwp_seq_k fun K3 hK3 => ?_
  refine vwp_sq [1, 2, 3] fun K4 hK4 => vwp_region hT ?_
  simp
  refine hK4 _ ?_
  try clear hK4 K4
  refine vwp_block ?_
  have hprs := hp.rs
  refine vwp_gh (Gh.virtC 2 0 2 rfl rfl) ?_
  simp
  refine vwp_loop_s (fun i : Nat => ⟨[(2, .ptr 1 2 0), (3, .ptr 2 2 0), (11, rtV p.rs), (12, .int .i64 p.rs.length), (13, .int .i64 (i : Int))], .live p.c :: .live [.nils, .nils] :: .live [.sl 3 (i * 2) 2 0 i, sI p.un] :: .live (rowsL 4 0 (p.rs.take i)) :: blk 4 0 (p.rs.take i)⟩) (fun i => i ≤ p.rs.length) (fun i => p.rs.length - i) 0 (Gh.pick [2, 3, 11, 12, 13]) (by omega) ?_
  rintro i hi
  have hbl := blk_len 4 0 (p.rs.take i)
  have hrl := rowsL_len 4 0 (p.rs.take i)
  have htl : (p.rs.take i).length = i := by rw [List.length_take]; omega
  rw [htl] at hbl hrl
  obtain ⟨B, hB⟩ : ∃ B, B = blk 4 0 (p.rs.take i) := ⟨_, rfl⟩
  obtain ⟨RL, hRL⟩ : ∃ RL, RL = rowsL 4 0 (p.rs.take i) := ⟨_, rfl⟩
  rw [← hB, ← hRL]
  rw [← hB] at hbl
  rw [← hRL] at hrl
  intro K5 hK5
  refine vwp_sq [2, 3, 11, 12, 13] fun K6 hK6 => vwp_region hT ?_
  simp
  refine hK6 _ ?_
  try clear hK6 K6
  refine vwp_seq_k fun K7 hK7 => ?_
  refine vwp_cond (by first | rfl | (simp; rfl)) (fun h1 => ?_) fun h1 => ?_
  · simp -failIfUnchanged at h1; all_goals
   refine vwp_skip ?_
   refine hK7 _ ?_
   try clear hK7 K7
   refine vwp_seq_k fun K8 hK8 => ?_
   refine vwp_block ?_
   obtain ⟨s, hs⟩ := getI (l := p.rs) (i := i) (by omega)
   have hrow := rowRt hs
   have hlen := lenRt p.rs
   have hst : s.st.length < 1099511627776 := by
     have h1 := catR_le p.rs (i + 1)
     have h2 := hp.cat
     rw [catR_take hs, List.length_append] at h1
     omega
   refine vwp_sq [2, 3, 11, 12, 13] fun K9 hK9 => vwp_region hT ?_
   simp [hrow, hlen]
   repeat refine ⟨by first | assumption | omega | (intros; omega), ?_⟩
   refine hK9 _ ?_
   try clear hK9 K9
   refine vwp_live [2, 3, 5, 11, 12, 13] (vwp_storm hT hm [.win 0 2, .win 0 2, .win 0 1, .win 0 1, .win 0 0, .win 0 0, .mv, .win 1 1, .mv, .mv, .win 3 3, .mv] [[], [0], [], [2], [], [4], [4, 5], [2, 3, 4, 5, 6], [2, 3, 4, 5, 6, 7], [0, 1, 2, 3, 4, 5, 6, 7, 8], [0, 1, 2, 3, 4, 5, 6, 7, 8, 9], [0, 1, 2, 3, 4, 5, 6, 7, 8, 9, 10]] (by kernel_rfl) ?_)
   simp [hrl, zerosV, spl]
   repeat refine ⟨by first | assumption | omega | (intros; omega), ?_⟩
   refine ⟨.sl (B.length + 5) s.st.length 1 0 s.st.length, .live p.c :: .live [.nils, .nils] :: .live [.sl 3 (i * 2) 2 0 i, sI p.un] :: .live RL :: (B ++ [.live (Rt.cells s), .live (ints s.st)]), fun sl => ?_, ?_⟩
   · refine vcall_z [] (clone_spec s.st hst) (by rintro r ob' ⟨rfl, rfl⟩; simp) ?_
     rintro r ob' ⟨rfl, rfl⟩
     simp
   simp [hrl, zerosV, spl]
   repeat refine ⟨by first | assumption | omega | (intros; omega), ?_⟩
   refine hK8 _ ?_
   try clear hK8 K8
   have w1 : IntKind.i64.wrap ((i : Int) + 1) = i + 1 := w64 (by omega) (by omega)
   refine vwp_live [2, 3, 11, 12, 13] (vwp_region hT ?_)
   simp [w1]
   have hR2 : rowsL 4 0 (p.rs.take (i + 1)) = RL ++ [.int .i64 s.tr, .sl (B.length + 5) s.st.length 1 0 s.st.length] := by
     rw [take_snoc hs, rowsL_snoc, ← hRL, htl, hbl, idB, show 4 + 3 * (0 + i) + 1 = 3 * i + 5 by omega]
   have hB2 : blk 4 0 (p.rs.take (i + 1)) = B ++ [.live (Rt.cells s), .live (ints s.st), .live [.int .i64 s.tr, .sl (B.length + 5) s.st.length 1 0 s.st.length]] := by
     rw [take_snoc hs, blk_snoc, ← hB, htl, hbl, idB, show 4 + 3 * (0 + i) + 1 = 3 * i + 5 by omega]
   refine hK5 (i + 1) _ ?_ (by omega) (by omega)
   rw [hR2, hB2]
   exact Gh.pick [2, 3, 11, 12, 13]
  · simp -failIfUnchanged at h1; all_goals
   refine vwp_exit ?_
   simp only [inBlk, thenQ, if_true]
   refine hK3 _ ?_
   try clear hK3 K3
   refine vwp_sq [2, 3] fun K10 hK10 => vwp_region hT ?_
   simp
   repeat refine ⟨by first | assumption | omega | (intros; omega), ?_⟩
   refine hK10 _ ?_
   try clear hK10 K10
   refine vwp_ret (hR _ _ ?_)
   obtain rfl : i = p.rs.length := by omega
   rw [List.take_length] at hB hRL
   subst hB hRL
   exact ⟨_, Gh.refl _ _, True, [.agg [.sl 3 (p.rs.length * 2) 2 0 p.rs.length, sI p.un]], by simp, trivial, [.agg [.sl 3 (p.rs.length * 2) 2 0 p.rs.length, sI p.un]], _, rfl, by simp, Gh.refl _ _, rfl, rfl⟩
end Go.Proofs.Ytinigjmfjabicaa
