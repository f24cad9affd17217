/- Sectors that end with the mark; heads. -/
import Derived.Test.YtifhbgppjblobaaLogG
namespace Go.Proofs.Ytifhbgppjblobaa
open Go Go.VX Go.RowKit
set_option linter.unusedVariables false
set_option linter.unusedSimpArgs false
set_option maxHeartbeats 20000000
set_option maxRecDepth 100000

def markL (l : List Int) : List Int := l ++ List.replicate (31 - l.length) 0 ++ [165]
theorem markL_len {l : List Int} (h : l.length ≤ 31) : (markL l).length = 32 := by simp [markL]; omega
theorem markL_pad {l : List Int} (h : l.length ≤ 31) : (pad l).set 31 165 = markL l := by
  obtain ⟨k, hk⟩ : ∃ k, 31 - l.length = k := ⟨_, rfl⟩
  have e : 32 - l.length = k + 1 := by omega
  unfold pad markL
  rw [e, hk, List.replicate_succ', ← List.append_assoc, List.set_append_right _ _ (by simp; omega)]
  congr 1
  have : 31 - (l ++ List.replicate k (0 : Int)).length = 0 := by simp; omega
  rw [this]; rfl
theorem spl_set8 {l : List Int} {q : Nat} (h : q < l.length) (x : Int) : spl (l.map (V.int .u8)) q [.int .u8 x] = (l.set q x).map (.int .u8) := by
  rw [spl_eq (by simp; omega), List.map_set, List.set_eq_take_append_cons_drop, if_pos (by simpa using h)]
  simp
theorem marked_spec (rs : List (List Int)) (hrs : rs.length < 1099511627776) (hn : (catL rs).length ≤ 31) : VC P 67 [sBB rs] [] (fun r ob' => r = .sl 0 32 1 0 32 ∧ ob' = [.live (bts (markL (catL rs)))]) := by
  refine VC_of_vwp_k ent_67 Try.func67 rfl (by simp) fun R hR => ?_
  refine vwp_sq [0] fun K1 hK1 => vwp_region hT ?_
  simp [-List.reduceReplicate]
  refine hK1 _ ?_
  try clear hK1 K1
  refine vwp_sq [0] fun K2 hK2 => vwp_region hT ?_
  simp [-List.reduceReplicate]
  refine hK2 _ ?_
  try clear hK2 K2
  obtain ⟨L, hL⟩ : ∃ L, L = catL rs := ⟨_, rfl⟩
  have hc := bconcat_spec rs hrs (by omega)
  rw [← hL] at hc hn
  have hpl := pad_length (b := L) (by omega)
  have hsp := spl_pad (b := L) (by omega)
  have hmin : min L.length 32 = L.length := by omega
  rw [hmin, List.take_of_length_le (by simp)] at hsp
  have hlt : L.length < 32 := by omega
  refine vwp_sq [0, 3] fun K3 hK3 => vwp_storm hT hm [.win 0 1, .pure, .mv, .mv] [[], [], [1], [0, 1, 2]] (by kernel_rfl) ?_
  simp [-List.reduceReplicate, hsp, hmin]
  repeat refine ⟨by first | assumption | omega | (intros; omega), ?_⟩
  refine ⟨.sl 1 L.length 1 0 L.length, [.live (List.replicate 32 (.int .u8 0)), .live (bts L)], fun sl => ?_, ?_⟩
  · refine vcall_k [] (hc) ?_
    rintro r ob' ⟨rfl, rfl⟩
    simp
  simp [-List.reduceReplicate, hsp, hmin]
  repeat refine ⟨by first | assumption | omega | (intros; omega), ?_⟩
  refine hK3 _ ?_
  try clear hK3 K3
  have hset := spl_set8 (l := pad L) (q := 31) (by omega) 165
  rw [markL_pad hn] at hset
  refine vwp_sq [3] fun K4 hK4 => vwp_region hT ?_
  simp [-List.reduceReplicate, hsp, hset, hpl]
  repeat refine ⟨by first | assumption | omega | (intros; omega), ?_⟩
  refine hK4 _ ?_
  try clear hK4 K4
  have hml := markL_len hn
  refine vwp_sq [3] fun K5 hK5 => vwp_region hT ?_
  simp [-List.reduceReplicate, hpl]
  repeat refine ⟨by first | assumption | omega | (intros; omega), ?_⟩
  refine hK5 _ ?_
  try clear hK5 K5
  refine vwp_ret (hR _ _ ?_)
  rw [← hL]
  exact ret_k [2] [0] ([.live (bts (markL L))]) (.sl 0 32 1 0 32) (⟨rfl, rfl⟩)
end Go.Proofs.Ytifhbgppjblobaa
