/- The library's functions of texts that are used here. -/
import Derived.Test.YtgmcflbbdpbkeaaDoorPkA
namespace Go.Proofs.YtgmcflbbdpbkeaaDoor
open Go Go.VX Go.RowKit
set_option linter.unusedVariables false
set_option linter.unusedSimpArgs false
set_option maxHeartbeats 20000000
set_option maxRecDepth 100000

def sufB (s t : ByteArray) : Bool := decide (t.size ≤ s.size) && decide (s.extract (s.size - t.size) s.size = t)
theorem hasSuffix_spec (s t : ByteArray) (hs : s.size < 1099511627776) (ht : t.size < 1099511627776) : VC P 42 [.str s, .str t] [] (fun r ob' => r = .bool (sufB s t) ∧ ob' = []) := by
  refine VC_of_vwp_k ent_42 Tryd.func42 rfl (by simp) fun R hR => ?_
  refine vwp_sq [0, 1] fun K1 hK1 => vwp_region hT ?_
  simp
  refine hK1 _ ?_
  try clear hK1 K1
  refine vwp_seq_k fun K2 hK2 => ?_
  by_cases hle : t.size ≤ s.size
  · obtain ⟨m, hm3⟩ : ∃ m, m = s.size - t.size := ⟨_, rfl⟩
    have w1 : IntKind.i64.wrap ((s.size : Int) - (t.size : Int)) = (m : Int) := (w64 (by omega) (by omega)).trans (by omega)
    have hle2 : (t.size : Int) ≤ (s.size : Int) := by omega
    have hr : sufB s t = decide (s.extract m s.size = t) := by rw [sufB, decide_eq_true hle, Bool.true_and, hm3]
    refine vwp_live [0, 1] (vwp_region hT ?_)
    simp [w1, hle, hle2]
    repeat refine ⟨by first | assumption | omega | (intros; omega), ?_⟩
    refine hK2 _ ?_
    try clear hK2 K2
    refine vwp_ret (hR _ _ ?_)
    rw [hr]
    exact ret_k [4] [] ([]) (.bool (decide (s.extract m s.size = t))) (⟨rfl, rfl⟩)
  · have hle2 : ¬ (t.size : Int) ≤ (s.size : Int) := by omega
    have hr : sufB s t = false := by rw [sufB, decide_eq_false hle, Bool.false_and]
    refine vwp_live [0, 1] (vwp_region hT ?_)
    simp [hle, hle2]
    repeat refine ⟨by first | assumption | omega | (intros; omega), ?_⟩
    refine hK2 _ ?_
    try clear hK2 K2
    refine vwp_ret (hR _ _ ?_)
    rw [hr]
    exact ret_k [4] [] ([]) (.bool false) (⟨rfl, rfl⟩)

def cutS (s t : ByteArray) : ByteArray := if sufB s t = true then s.extract 0 (s.size - t.size) else s
theorem cutSuffix1_spec (s t : ByteArray) (hs : s.size < 1099511627776) (ht : t.size < 1099511627776) : VC P 33 [.str s, .str t] [] (fun r ob' => r = .tup [.str (cutS s t), .bool (sufB s t)] ∧ ob' = []) := by
  refine VC_of_vwp_k ent_33 Tryd.func33 rfl (by simp) fun R hR => ?_
  refine vwp_sq [0, 1] fun K1 hK1 => vwp_region hT ?_
  simp
  refine hK1 _ ?_
  try clear hK1 K1
  refine vwp_seq_k fun K2 hK2 => ?_
  refine vwp_sq [0, 1] fun K3 hK3 => vwp_region hT ?_
  simp
  refine vcall_k [] (hasSuffix_spec s t hs ht) ?_
  rintro r ob' ⟨rfl, rfl⟩
  simp
  refine hK3 _ ?_
  try clear hK3 K3
  refine vwp_cond (by first | rfl | (simp; rfl)) (fun h1 => ?_) fun h1 => ?_
  · simp -failIfUnchanged at h1; all_goals
   have q : sufB s t = false := by simpa using h1
   refine vwp_sq [0] fun K4 hK4 => vwp_region hT ?_
   simp
   refine hK4 _ ?_
   try clear hK4 K4
   refine vwp_ret (hR _ _ ?_)
   have e : cutS s t = s := by rw [cutS, if_neg (by simp [q])]
   rw [e, q]
   exact ret_k [4, 5] [] ([]) (.tup [.str s, .bool false]) (⟨rfl, rfl⟩)
  · simp -failIfUnchanged at h1; all_goals
   have q : sufB s t = true := by simpa using h1
   have hle : t.size ≤ s.size := by
     simp only [sufB, Bool.and_eq_true, decide_eq_true_eq] at q
     exact q.1
   have e : cutS s t = s.extract 0 (s.size - t.size) := by rw [cutS, if_pos q]
   obtain ⟨m, hm3⟩ : ∃ m, m = s.size - t.size := ⟨_, rfl⟩
   have w1 : IntKind.i64.wrap ((s.size : Int) - (t.size : Int)) = (m : Int) := (w64 (by omega) (by omega)).trans (by omega)
   refine vwp_skip ?_
   refine hK2 _ ?_
   try clear hK2 K2
   refine vwp_sq [0, 1] fun K5 hK5 => vwp_region hT ?_
   simp [w1]
   repeat refine ⟨by first | assumption | omega | (intros; omega), ?_⟩
   refine hK5 _ ?_
   try clear hK5 K5
   refine vwp_ret (hR _ _ ?_)
   rw [e, q, ← hm3]
   exact ret_k [4, 5] [] ([]) (.tup [.str (s.extract 0 m), .bool true]) (⟨rfl, rfl⟩)
theorem cutSuffix_spec (s t : ByteArray) (hs : s.size < 1099511627776) (ht : t.size < 1099511627776) : VC P 28 [.str s, .str t] [] (fun r ob' => r = .tup [.str (cutS s t), .bool (sufB s t)] ∧ ob' = []) := by
  refine VC_of_vwp_k ent_28 Tryd.func28 rfl (by simp) fun R hR => ?_
  refine vwp_sq [0, 1] fun K1 hK1 => vwp_region hT ?_
  simp
  refine hK1 _ ?_
  try clear hK1 K1
  refine vwp_sq [0, 1] fun K2 hK2 => vwp_region hT ?_
  simp
  refine vcall_k [] (cutSuffix1_spec s t hs ht) ?_
  rintro r ob' ⟨rfl, rfl⟩
  simp
  refine hK2 _ ?_
  try clear hK2 K2
  refine vwp_ret (hR _ _ ?_)
  exact ret_k [4, 5] [] ([]) (.tup [.str (cutS s t), .bool (sufB s t)]) (⟨rfl, rfl⟩)

def setV (cs : List Int) : List V := (List.range 256).map fun (i : Nat) => V.bool (cs.contains (i : Int))
theorem setV_len (cs : List Int) : (setV cs).length = 256 := by simp [setV]
@[simp] theorem setV_rn (f : Nat → Nat) (cs : List Int) : (setV cs).map (rn1 f) = setV cs := by simp [setV, Function.comp_def, rn1, rn0]
@[simp] theorem setV_vw (ob : List Ob) (ks : List Nat) (b : Bool) (cs : List Int) : (setV cs).map (vw1 ob ks b) = setV cs := by simp [setV, Function.comp_def, vw1, vw0]
theorem setV_mem {cs : List Int} {x : V} (h : x ∈ setV cs) : ∃ b, x = .bool b := by
  simp only [setV, List.mem_map] at h
  obtain ⟨i, _, rfl⟩ := h
  exact ⟨_, rfl⟩
theorem setV_get {cs : List Int} {c : Nat} (h : c < 256) : (setV cs)[c]? = some (.bool (cs.contains (c : Int))) := by simp [setV, h]
theorem setV_nil : setV [] = List.replicate 256 (V.bool false) := by simp [setV, List.map_const', -List.reduceReplicate]
theorem setV_set {cs : List Int} {c : Nat} (h : c < 256) : (setV cs).set c (.bool true) = setV (cs ++ [(c : Int)]) := by
  apply List.ext_getElem?
  intro i
  rw [List.getElem?_set]
  by_cases hi : i < 256
  · rw [setV_get hi, setV_get hi, setV_len]
    split
    · rename_i e
      subst e
      simp [h]
    · rename_i e
      have : ¬ (i : Int) = (c : Int) := by omega
      simp [this]
  · have h1 : (setV cs)[i]? = none := List.getElem?_eq_none (by rw [setV_len]; omega)
    have h2 : (setV (cs ++ [(c : Int)]))[i]? = none := List.getElem?_eq_none (by rw [setV_len]; omega)
    rw [h1, h2, if_neg (by omega)]
theorem spl_one {cs : List V} {q : Nat} (h : q < cs.length) (x : V) : spl cs q [x] = cs.set q x := by
  rw [spl_eq (by simp; omega), List.set_eq_take_append_cons_drop, if_pos h]
  simp
theorem contains_spec (cs : List Int) (c : Int) (hc : 0 ≤ c ∧ c < 256) : VC P 43 [.ptr 0 256 0, .int .u8 c] [.live (setV cs)] (fun r ob' => r = .bool (cs.contains c) ∧ ob' = [.live (setV cs)]) := by
  refine VC_of_vwp_k ent_43 Tryd.func43 rfl (by simp) fun R hR => ?_
  refine vwp_sq [0, 1] fun K1 hK1 => vwp_region hT ?_
  simp
  refine hK1 _ ?_
  try clear hK1 K1
  obtain ⟨n, rfl⟩ := Int.eq_ofNat_of_zero_le hc.1
  have hl := setV_len cs
  have hg := setV_get (cs := cs) (c := n) (by omega)
  refine vwp_sq [0, 1] fun K2 hK2 => vwp_region hT ?_
  simp [hl, hg]
  repeat refine ⟨by first | assumption | omega | (intros; omega), ?_⟩
  refine hK2 _ ?_
  try clear hK2 K2
  refine vwp_ret (hR _ _ ?_)
  exact ret_k [4] [0] ([.live (setV cs)]) (.bool (cs.contains (n : Int))) (⟨rfl, rfl⟩)
theorem makeSet_spec (s : ByteArray) (hs : s.size < 1099511627776) (h128 : ∀ c ∈ sL s, c < 128) : VC P 36 [.str s] [] (fun r ob' => r = .tup [.agg (setV (sL s)), .bool true] ∧ ob' = []) := by
  refine VC_of_vwp_c hT ent_36 Tryd.func36 rfl (by simp) fun R hR => ?_
  refine vwp_sq [0] fun K1 hK1 => vwp_region hT ?_
  simp [-List.reduceReplicate]
  refine hK1 _ ?_
  try clear hK1 K1
  refine vwp_seq_k fun K2 hK2 => ?_
  refine vwp_sq [0, 2] fun K3 hK3 => vwp_region hT ?_
  simp [-List.reduceReplicate]
  refine hK3 _ ?_
  try clear hK3 K3
  refine vwp_block ?_
  refine vwp_loop_s (fun i : Nat => ⟨[(0, .str s), (2, .ptr 0 256 0), (4, .int .i64 (i : Int))], [.live (setV ((sL s).take i))]⟩) (fun i => i ≤ s.size) (fun i => s.size - i) (0) (Gh.to_k [0, 2, 4] [0] (hh := by simp [setV_nil, -List.reduceReplicate])) (by omega) ?_
  rintro i hi
  intro K4 hK4
  refine vwp_seq_k fun K5 hK5 => ?_
  refine vwp_sq [0, 2, 4] fun K6 hK6 => vwp_region hT ?_
  simp [-List.reduceReplicate]
  refine hK6 _ ?_
  try clear hK6 K6
  refine vwp_cond (by first | rfl | (simp; rfl)) (fun h1 => ?_) fun h1 => ?_
  · simp -failIfUnchanged at h1; all_goals
   refine vwp_skip ?_
   refine hK5 _ ?_
   try clear hK5 K5
   refine vwp_seq_k fun K7 hK7 => ?_
   refine vwp_block ?_
   have hsl := sL_len s
   obtain ⟨c, hc⟩ := getI (l := sL s) (i := i) (by omega)
   have hcm := List.mem_of_getElem? hc
   have hcb := sL_byte s c hcm
   have hc8 := h128 c hcm
   have hg := sL_get hc
   refine vwp_sq [0, 2, 4] fun K8 hK8 => vwp_region hT ?_
   simp [-List.reduceReplicate, hg]
   repeat refine ⟨by first | assumption | omega | (intros; omega), ?_⟩
   refine hK8 _ ?_
   try clear hK8 K8
   refine vwp_seq_k fun K9 hK9 => ?_
   refine vwp_sq [0, 2, 4, 5] fun K10 hK10 => vwp_region hT ?_
   simp [-List.reduceReplicate]
   refine hK10 _ ?_
   try clear hK10 K10
   refine vwp_cond (by first | rfl | (simp; rfl)) (fun h2 => ?_) fun h2 => ?_
   · simp -failIfUnchanged at h2; all_goals
    refine vwp_seq_k fun K11 hK11 => ?_
    omega
   · simp -failIfUnchanged at h2; all_goals
    refine vwp_skip ?_
    refine hK9 _ ?_
    try clear hK9 K9
    obtain ⟨n, rfl⟩ := Int.eq_ofNat_of_zero_le hcb.1
    have hl := setV_len ((sL s).take i)
    have hst : (setV ((sL s).take i)).set n (.bool true) = setV ((sL s).take (i + 1)) := by
      rw [setV_set (by omega), List.take_add_one, hc]; rfl
    have hsp := spl_one (cs := setV ((sL s).take i)) (q := n) (by omega) (.bool true)
    refine vwp_live [0, 2, 4, 5] (vwp_region hT ?_)
    simp [-List.reduceReplicate, hl, hsp, hst]
    repeat refine ⟨by first | assumption | omega | (intros; omega), ?_⟩
    refine hK7 _ ?_
    try clear hK7 K7
    have w1 : IntKind.i64.wrap ((i : Int) + 1) = i + 1 := w64 (by omega) (by omega)
    refine vwp_live [0, 2, 4] (vwp_region hT ?_)
    simp [-List.reduceReplicate, w1]
    exact hK4 (i + 1) _ (Gh.to_k [0, 2, 4] [0] (hh := by simp [hst])) (by omega) (by omega)
  · simp -failIfUnchanged at h1; all_goals
   refine vwp_exit ?_
   simp only [inBlk, thenQ, if_true]
   refine hK2 _ ?_
   try clear hK2 K2
   have e : i = (sL s).length := by rw [sL_len]; omega
   rw [e, List.take_length]
   have hl := setV_len (sL s)
   have hspl : spl (setV (sL s)) 0 (setV (sL s)) = setV (sL s) := by
     rw [spl_eq (by omega), List.drop_of_length_le (by omega)]; simp
   have ht : List.take 256 (setV (sL s)) = setV (sL s) := List.take_of_length_le (by omega)
   refine vwp_sq [2] fun K12 hK12 => vwp_region hT ?_
   simp [-List.reduceReplicate, hl, hspl, ht]
   repeat refine ⟨by first | assumption | omega | (intros; omega), ?_⟩
   refine hK12 _ ?_
   try clear hK12 K12
   refine vwp_ret (hR _ _ ?_)
   exact retc_only [] [] (p := True) (xs := [.agg (setV (sL s)), .bool true]) (xs' := [.agg (setV (sL s)), .bool true]) (by simp [hl, ht]) trivial (by simp) (by simp) rfl (by simp; intro c hc; obtain ⟨b, rfl⟩ := setV_mem hc; trivial) (by simp) rfl (by simp) ⟨rfl, rfl⟩
end Go.Proofs.YtgmcflbbdpbkeaaDoor
