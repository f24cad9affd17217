/- The document's answers: a log is opened. -/
import Derived.Test.YtifhbgppjblobaaL2H
namespace Go.Proofs.Ytifhbgppjblobaa
open Go Go.VX Go.RowKit
set_option linter.unusedVariables false
set_option linter.unusedSimpArgs false
set_option maxHeartbeats 20000000
set_option maxRecDepth 100000

theorem wipeK_log {n h down : Nat} : ∀ (k : Nat) (g : Lg) (d : Dk), (wipeK n h down k g d).2.1 = { g with broken := g.broken || !((wipeK n h down k g d).1 == 0) }
  | 0, g, d => by simp [wipeK]
  | k + 1, g, d => by
    rw [wipeK]
    split
    · exact wipeK_log k g d
    · split
      · rw [wipeK_log k (g.wrote 0)]; simp [Lg.wrote]
      · rfl
theorem layK_log {n h at_ : Nat} {ss : List (List Int)} : ∀ (k : Nat) (g : Lg) (d : Dk), (layK n h at_ ss k g d).2.1 = { g with broken := g.broken || !((layK n h at_ ss k g d).1 == 0) }
  | 0, g, d => by simp [layK]
  | k + 1, g, d => by
    rw [layK]
    split
    · rw [layK_log k (g.wrote 0)]; simp [Lg.wrote]
    · rfl
theorem begin_ref {d : Dk} {n : Nat} (hd : d.ok n) : beginOk d n = (blankB ((d.B.drop 32).take (32 * (n / 2) - 32)) && (d.B.getD 31 0 == 0)) := by
  have hn2 := hd.n2
  have hl := hd.len
  have h31 : (d.sector 0).getD 31 0 = d.B.getD 31 0 := by
    unfold Dk.sector
    rw [Nat.zero_mul, List.drop_zero]
    exact take_getD (by omega)
  unfold beginOk
  rw [h31]
  congr 1
  have hpi := pads_iff hd (List.replicate (n / 2 - 1) []) 1 (by rw [List.length_replicate]; omega) (fun w hw => by rw [List.eq_of_mem_replicate hw]; simp)
  have e1 : ((List.replicate (n / 2 - 1) ([] : List Int)).map pad).flatten = List.replicate (32 * (n / 2) - 32) 0 := by
    rw [List.map_replicate, pad_nil, List.flatten_replicate_replicate]
    congr 1
    omega
  have e2 : 32 * (List.replicate (n / 2 - 1) ([] : List Int)).length = 32 * (n / 2) - 32 := by rw [List.length_replicate]; omega
  rw [e1, e2, Nat.one_mul] at hpi
  have e3 : ((d.B.drop 32).take (32 * (n / 2) - 32)).length = 32 * (n / 2) - 32 := by rw [List.length_take, List.length_drop]; omega
  rw [← blankB_eq, e3, Bool.eq_iff_iff, decide_eq_true_eq, ← hpi, List.all_eq_true]
  constructor
  · intro h i w hw
    have hi := (List.getElem?_eq_some_iff.1 hw).1
    rw [List.length_replicate] at hi
    have hw2 := List.eq_of_mem_replicate (List.mem_of_getElem? hw)
    subst hw2
    have := h (1 + i) (List.mem_range.2 (by omega))
    rw [Bool.or_eq_true, beq_iff_eq] at this
    exact blank_eq (sector_len hd (by omega)) (this.resolve_left (by omega))
  · intro h a ha
    have ha2 := List.mem_range.1 ha
    rw [Bool.or_eq_true, beq_iff_eq]
    by_cases h0 : a = 0
    · exact .inl h0
    · right
      have := h (a - 1) [] (by rw [List.getElem?_replicate, if_pos (by omega)])
      rw [show 1 + (a - 1) = a by omega] at this
      rw [this]
      exact blank_nil
theorem open_begin_no {d : Dk} {n : Nat} (h4 : ¬ n < 4) (hM : max (genL d n 0) (genL d n 1) = 0) (hb : beginOk d n = false) : openL d n = (none, 8, d) := by
  have e : beginL (Lg.new 0) d n = (8, Lg.new 0, d) := by unfold beginL; rw [if_neg (by simp [hb])]
  unfold openL
  rw [if_neg h4, if_pos hM]
  simp only [e]
  rfl
theorem open_begin_yes {d : Dk} {n : Nat} (h4 : ¬ n < 4) (hM : max (genL d n 0) (genL d n 1) = 0) (hb : beginOk d n = true) : openL d n = if (d.write n 0 (headL 1)).1 = 0 then openR (d.write n 0 (headL 1)).2 n ⟨0, 1, [], 0, false⟩ else (none, (d.write n 0 (headL 1)).1, (d.write n 0 (headL 1)).2) := by
  have e : beginL (Lg.new 0) d n = ((d.write n 0 (headL 1)).1, (Lg.new 0).wrote (d.write n 0 (headL 1)).1, (d.write n 0 (headL 1)).2) := by unfold beginL; rw [if_pos hb]
  unfold openL
  rw [if_neg h4, if_pos hM]
  simp only [e]
  split
  · rename_i e0
    rw [e0]
    rfl
  · rfl
abbrev rlogO (r : Nat) (g : Lg) : Ob := .live [.ptr 0 5 0, .int .i64 g.half, .int .i64 g.gen, .sl r g.rows.length 1 0 g.rows.length, .int .i64 g.fin, .bool g.broken]
def ropenQ (x : Option Lg × Int × Dk) (r : V) (ob' : List Ob) : Prop :=
  match x.1 with
  | none => r = .tup [.nilp, .int .i64 x.2.1] ∧ ob' = x.2.2.robs
  | some g => r = .tup [.ptr 2 6 0, .int .i64 x.2.1] ∧ ob' = x.2.2.robs ++ [rlogO 3 g, .live (g.rows.map sB)]
theorem open_ref (d : Dk) (n : Nat) (hd : d.ok n) (hbt : byteL d.B) : VC P 21 [.ptr 0 5 0] d.robs (fun r ob' => ropenQ (openL d n) r ob') := by
  refine VC_of_vwp_k ent_21 Try.func21 rfl (by simp) fun R hR => ?_
  refine vwp_sq [0] fun K1 hK1 => vwp_region hT ?_
  simp [Dk.robs]
  refine hK1 _ ?_
  try clear hK1 K1
  refine vwp_seq_k fun K2 hK2 => ?_
  have hn4 := hd.n4
  have hn2 := hd.n2
  have hl := hd.len
  obtain ⟨LB, hLB⟩ : ∃ LB, LB = d.B.length := ⟨_, rfl⟩
  have hLBr := hLB.symm
  rw [← hLB] at hl
  have hn32 : n = LB / 32 := by omega
  have t1 : (LB : Int).tdiv 32 = (n : Int) := by rw [hn32]; rfl
  have t2 : IntKind.i64.wrap (n : Int) = (n : Int) := w64 (by omega) (by omega)
  refine vwp_sq [0] fun K3 hK3 => vwp_region hT ?_
  simp [Dk.robs, ← hLB, t1, t2]
  repeat refine ⟨by first | assumption | omega | (intros; omega), ?_⟩
  refine hK3 _ ?_
  try clear hK3 K3
  refine vwp_cond (by first | rfl | (simp; rfl)) (fun h1 => ?_) fun h1 => ?_
  · simp -failIfUnchanged at h1; all_goals
   have q := h1
   have hop : openL d n = (none, 1, d) := by rw [openL, if_pos (by omega)]
   refine vwp_sq [] fun K4 hK4 => vwp_region hT ?_
   simp [Dk.robs]
   refine hK4 _ ?_
   try clear hK4 K4
   refine vwp_ret (hR _ _ ?_)
   exact ret_k [2, 3] [0, 1] ((d).robs) (.tup [.nilp, .int .i64 1]) (by unfold ropenQ; rw [hop]; exact ⟨rfl, rfl⟩) (hh := by simp [Dk.robs, hLBr])
  · simp -failIfUnchanged at h1; all_goals
   have q := h1
   have h4 : ¬ n < 4 := by omega
   refine vwp_skip ?_
   refine hK2 _ ?_
   try clear hK2 K2
   refine vwp_sq [0] fun K5 hK5 => vwp_region hT ?_
   simp [Dk.robs]
   refine vcall_k [0, 1] (gen_ref d n hd hbt 0 (by omega)) ?_ (hh := by simp [Dk.robs, hLBr])
   rintro r ob' ⟨rfl, rfl⟩
   simp [Dk.robs]
   refine hK5 _ ?_
   try clear hK5 K5
   refine vwp_sq [0, 4] fun K6 hK6 => vwp_region hT ?_
   simp [Dk.robs]
   refine vcall_k [0, 1] (gen_ref d n hd hbt 1 (by omega)) ?_ (hh := by simp [Dk.robs, hLBr])
   rintro r ob' ⟨rfl, rfl⟩
   simp [Dk.robs]
   refine hK6 _ ?_
   try clear hK6 K6
   obtain ⟨A, hA⟩ : ∃ A, A = genL d n 0 := ⟨_, rfl⟩
   obtain ⟨B, hB⟩ : ∃ B, B = genL d n 1 := ⟨_, rfl⟩
   have hAl : A ≤ 2147483647 := by rw [hA]; exact genL_le d n 0
   have hBl : B ≤ 2147483647 := by rw [hB]; exact genL_le d n 1
   try rw [← hA]
   try rw [← hB]
   obtain ⟨M, hM⟩ : ∃ M, M = max A B := ⟨_, rfl⟩
   have w1 : (if (A : Int) < (B : Int) then (B : Int) else (A : Int)) = (M : Int) := by split <;> omega
   have w1b : (if A < B then (B : Int) else (A : Int)) = (M : Int) := by split <;> omega
   have w2 : (if (B : Int) < (A : Int) then (A : Int) else (B : Int)) = (M : Int) := by split <;> omega
   have w2b : (if B < A then (A : Int) else (B : Int)) = (M : Int) := by split <;> omega
   refine vwp_sq [0, 4, 5] fun K7 hK7 => vwp_region hT ?_
   simp [Dk.robs, w1, w1b, w2, w2b]
   repeat refine ⟨by first | assumption | omega | (intros; omega), ?_⟩
   refine hK7 _ ?_
   try clear hK7 K7
   refine vwp_cut_s (fun hf : Nat => ⟨[(0, .ptr 0 5 0), (6, .ptr 2 6 0)], [.live [.sl 1 d.B.length 1 0 d.B.length, .bool d.down, .int .i64 d.fuse, .int .i64 d.torn, .int .i64 d.writes], .live (bts d.B), .live [.ptr 0 5 0, .int .i64 (hf : Int), .int .i64 (M : Int), .nils, .int .i64 0, .bool false]]⟩) (fun hf => hf = if A < B then 1 else 0) (fun K8 hK8 => ?_) ?_
   · refine vwp_sq [0, 4, 5, 6] fun K9 hK9 => vwp_region hT ?_
     simp [Dk.robs]
     refine hK9 _ ?_
     try clear hK9 K9
     refine vwp_cond (by first | rfl | (simp; rfl)) (fun h2 => ?_) fun h2 => ?_
     · simp -failIfUnchanged at h2; all_goals
      have hAB := h2
      refine vwp_live [0, 6] (vwp_region hT ?_)
      simp [Dk.robs]
      repeat refine ⟨by first | assumption | omega | (intros; omega), ?_⟩
      exact hK8 1 _ (Gh.to_k [0, 6] [0, 1, 2] (hh := by simp [hLBr])) (by rw [if_pos (by omega)])
     · simp -failIfUnchanged at h2; all_goals
      have hAB := h2
      refine vwp_skip ?_
      exact hK8 0 _ (Gh.to_k [0, 6] [0, 1, 2] (hh := by simp [hLBr])) (by rw [if_neg (by omega)])
   · rintro hf hhf
     try dsimp only at hhf ⊢
     have hh1 : hf ≤ 1 := by rw [hhf]; split <;> omega
     refine vwp_cut_s (fun v : Nat × Nat × Dk => ⟨[(0, .ptr 0 5 0), (6, .ptr 2 6 0)], [.live [.sl 1 v.2.2.B.length 1 0 v.2.2.B.length, .bool v.2.2.down, .int .i64 v.2.2.fuse, .int .i64 v.2.2.torn, .int .i64 v.2.2.writes], .live (bts v.2.2.B), .live [.ptr 0 5 0, .int .i64 (v.1 : Int), .int .i64 (v.2.1 : Int), .nils, .int .i64 0, .bool false]]⟩) (fun v => v.2.2.ok n ∧ byteL v.2.2.B ∧ v.1 ≤ 1 ∧ v.2.1 ≤ 2147483647 ∧ openL d n = openR v.2.2 n ⟨v.1, v.2.1, [], 0, false⟩) (fun K10 hK10 => ?_) ?_
     · refine vwp_sq [0, 6] fun K11 hK11 => vwp_region hT ?_
       simp [Dk.robs]
       refine hK11 _ ?_
       try clear hK11 K11
       refine vwp_cond (by first | rfl | (simp; rfl)) (fun h3 => ?_) fun h3 => ?_
       · simp -failIfUnchanged at h3; all_goals
        have q := h3
        have hM0 : M = 0 := by omega
        have hA0 : A = 0 := by omega
        have hB0 : B = 0 := by omega
        have hf0 : hf = 0 := by rw [hhf, if_neg (by omega)]
        have hbeg := begin_ref hd
        have hMM : max (genL d n 0) (genL d n 1) = 0 := by rw [← hA, ← hB, ← hM]; exact hM0
        have hhf2 := half_ref d n hd 0 (by omega)
        obtain ⟨m, hm1⟩ : ∃ m, m = 32 * (n / 2) := ⟨_, rfl⟩
        rw [Nat.zero_mul, ← hm1] at hhf2
        rw [← hm1] at hbeg
        refine vwp_sq [0, 6] fun K12 hK12 => vwp_region hT ?_
        simp [Dk.robs]
        refine vcall_k [0, 1] (hhf2) ?_ (hh := by simp [Dk.robs])
        rintro r ob' ⟨rfl, rfl⟩
        simp [Dk.robs]
        refine hK12 _ ?_
        try clear hK12 K12
        refine vwp_seq_k fun K13 hK13 => ?_
        refine vwp_seq_k fun K14 hK14 => ?_
        obtain ⟨z, hz⟩ : ∃ z, z = (d.B.drop 32).take (m - 32) := ⟨_, rfl⟩
        have hzl : z.length = m - 32 := by rw [hz, List.length_take, List.length_drop]; omega
        have hzt : List.take (m - 32) (List.drop 32 (bts d.B)) = bts z := by rw [hz, ← List.map_drop, ← List.map_take]
        have hzs := zero_ref z (by omega)
        obtain ⟨v, hv⟩ := getI (l := d.B) (i := 31) (by omega)
        have hvd : d.B.getD 31 0 = v := by rw [List.getD_eq_getElem?_getD, hv]; rfl
        rw [← hz, hvd] at hbeg
        have hvs : ∀ x, vsub 32 (m : Int) x = x := fun x => if_pos (by omega)
        obtain ⟨zb, hzb⟩ : ∃ zb, zb = blankB z := ⟨_, rfl⟩
        rw [← hzb] at hzs hbeg
        rcases zb with _ | _
        · have hopb : openL d n = (none, 8, d) := open_begin_no h4 hMM (by rw [hbeg]; simp)
          refine vwp_live [0, 6, 7] (vwp_region hT ?_)
          simp [Dk.robs, hvs, hv]
          repeat refine ⟨by first | assumption | omega | (intros; omega), ?_⟩
          refine vcall_z [] (hzs) (by rintro r ob' ⟨rfl, rfl⟩; simp) ?_ (ha := by simp [hzt, hzl]) (hok := by simp)
          rintro r ob' ⟨rfl, rfl⟩
          simp [Dk.robs, hvs, hv]
          repeat refine ⟨by first | assumption | omega | (intros; omega), ?_⟩
          refine hK14 _ ?_
          try clear hK14 K14
          refine vwp_cond (by first | rfl | (simp; rfl)) (fun h4 => ?_) fun h4 => ?_
          · simp -failIfUnchanged at h4; all_goals
           refine vwp_sq [] fun K15 hK15 => vwp_region hT ?_
           simp [Dk.robs]
           refine hK15 _ ?_
           try clear hK15 K15
           refine vwp_ret (hR _ _ ?_)
           exact ret_k [2, 3] [0, 1] ((d).robs) (.tup [.nilp, .int .i64 8]) (by unfold ropenQ; rw [hopb]; exact ⟨rfl, rfl⟩) (hh := by simp [Dk.robs, hLBr])
          · simp -failIfUnchanged at h4; all_goals
           refine vwp_skip ?_
           refine hK13 _ ?_
           try clear hK13 K13
           refine vwp_seq_k fun K16 hK16 => ?_
           simp at *
        · refine vwp_live [0, 6, 7] (vwp_region hT ?_)
          simp [Dk.robs, hvs, hv]
          repeat refine ⟨by first | assumption | omega | (intros; omega), ?_⟩
          refine vcall_z [] (hzs) (by rintro r ob' ⟨rfl, rfl⟩; simp) ?_ (ha := by simp [hzt, hzl]) (hok := by simp)
          rintro r ob' ⟨rfl, rfl⟩
          simp [Dk.robs, hvs, hv]
          repeat refine ⟨by first | assumption | omega | (intros; omega), ?_⟩
          refine hK14 _ ?_
          try clear hK14 K14
          refine vwp_cond (by first | rfl | (simp; rfl)) (fun h5 => ?_) fun h5 => ?_
          · simp -failIfUnchanged at h5; all_goals
           have q2 := h5
           have hv0 : ¬ v = 0 := by simpa using q2
           have hopb : openL d n = (none, 8, d) := open_begin_no h4 hMM (by rw [hbeg]; simp [hv0])
           refine vwp_sq [] fun K17 hK17 => vwp_region hT ?_
           simp [Dk.robs]
           refine hK17 _ ?_
           try clear hK17 K17
           refine vwp_ret (hR _ _ ?_)
           exact ret_k [2, 3] [0, 1] ((d).robs) (.tup [.nilp, .int .i64 8]) (by unfold ropenQ; rw [hopb]; exact ⟨rfl, rfl⟩) (hh := by simp [Dk.robs, hLBr])
          · simp -failIfUnchanged at h5; all_goals
           have q2 := h5
           have hv0 : v = 0 := by simpa using q2
           have hhd := head_ref 1 (by decide)
           obtain ⟨HL, hHL⟩ : ∃ HL, HL = headL 1 := ⟨_, rfl⟩
           have hHl : HL.length = 32 := by rw [hHL]; exact headL_len 1
           have hws := rwrite_spec d n hd 0 HL
           have hbw := write_byte (n := n) (a := 0) hbt (headL 1) (headL_byte 1)
           have hopb := open_begin_yes h4 hMM (by rw [hbeg, hv0]; rfl)
           rw [← hHL] at hhd hbw hopb
           obtain ⟨we, hwe⟩ : ∃ we, we = (d.write n 0 HL).1 := ⟨_, rfl⟩
           obtain ⟨d3, hd3e⟩ : ∃ d3, d3 = (d.write n 0 HL).2 := ⟨_, rfl⟩
           have hd3 : d3.ok n := by rw [hd3e]; exact write_ok hd _ _
           rw [← hd3e] at hbw
           rw [← hwe, ← hd3e] at hws hopb
           refine vwp_skip ?_
           refine hK13 _ ?_
           try clear hK13 K13
           refine vwp_sq [0, 6] fun K18 hK18 => vwp_region hT ?_
           simp [Dk.robs]
           refine vcall_k [] (hhd) ?_
           rintro r ob' ⟨rfl, rfl⟩
           simp [Dk.robs]
           refine vcall_freeze 3 (by rfl) (by intro c hc; simp at hc; obtain ⟨z, _, rfl⟩ := hc; rfl) ?_
           refine vcall_k [0, 1] (hws) ?_ (hh := by simp [Dk.robs]) (ha := by simp [hHl, List.take_of_length_le]) (hok := by simp [hHl])
           rintro r ob' ⟨rfl, rfl⟩
           simp [Dk.robs]
           refine hK18 _ ?_
           try clear hK18 K18
           refine vwp_seq_k fun K19 hK19 => ?_
           refine vwp_sq [0, 6, 8] fun K20 hK20 => vwp_region hT ?_
           simp [Dk.robs]
           refine hK20 _ ?_
           try clear hK20 K20
           refine vwp_cond (by first | rfl | (simp; rfl)) (fun h6 => ?_) fun h6 => ?_
           · simp -failIfUnchanged at h6; all_goals
            have q3 := h6
            have hopc : openL d n = (none, we, d3) := by rw [hopb, if_neg (by simpa using q3)]
            refine vwp_sq [8] fun K21 hK21 => vwp_region hT ?_
            simp [Dk.robs]
            refine hK21 _ ?_
            try clear hK21 K21
            refine vwp_ret (hR _ _ ?_)
            exact ret_k [2, 3] [0, 1] ((d3).robs) (.tup [.nilp, .int .i64 we]) (by unfold ropenQ; rw [hopc]; exact ⟨rfl, rfl⟩) (hh := by simp [Dk.robs, hLBr])
           · simp -failIfUnchanged at h6; all_goals
            have q3 := h6
            have hopc : openL d n = openR d3 n ⟨0, 1, [], 0, false⟩ := by rw [hopb, if_pos (by simpa using q3)]
            refine vwp_skip ?_
            refine hK19 _ ?_
            try clear hK19 K19
            refine vwp_live [0, 6] (vwp_region hT ?_)
            simp [Dk.robs]
            repeat refine ⟨by first | assumption | omega | (intros; omega), ?_⟩
            exact hK10 (0, 1, d3) _ (Gh.to_k [0, 6] [0, 1, 2] (hh := by simp [Dk.robs, hf0])) (⟨hd3, hbw, by dsimp only; omega, by dsimp only; omega, hopc⟩)
       · simp -failIfUnchanged at h3; all_goals
        have q := h3
        have hM0 : ¬ M = 0 := by omega
        have hop : openL d n = openR d n ⟨hf, M, [], 0, false⟩ := by
          rw [openL, if_neg h4, if_neg (by rw [← hA, ← hB, ← hM]; exact hM0), ← hA, ← hB, ← hM, ← hhf]; rfl
        refine vwp_skip ?_
        exact hK10 (hf, M, d) _ (Gh.to_k [0, 6] [0, 1, 2] (hh := by simp)) (⟨hd, hbt, hh1, by dsimp only; omega, hop⟩)
     · rintro ⟨h, gen, d2⟩ ⟨hd2, hbt2, hh, hg, hop⟩
       dsimp only at hd2 hbt2 hh hg hop ⊢
       have hhf3 := half_ref d2 n hd2 h hh
       have hscn := scan_ref d2 n hd2 hbt2 h gen hh (by omega)
       obtain ⟨rs, hrs⟩ : ∃ rs, rs = recsL d2 n h gen := ⟨_, rfl⟩
       have hsum : 1 + sumK rs ≤ n / 2 := by rw [hrs]; exact recsK_le _ _ _ (by omega)
       obtain ⟨RL, hRL⟩ : ∃ RL, RL = rs.map (·.2) := ⟨_, rfl⟩
       have hRLl : rs.length = RL.length := by rw [hRL, List.length_map]
       obtain ⟨fin, hfin⟩ : ∃ fin, fin = 1 + sumK rs := ⟨_, rfl⟩
       rw [← hrs, ← hRL, ← hfin, hRLl] at hscn
       obtain ⟨g4, hg4⟩ : ∃ g4, g4 = (⟨h, gen, RL, fin, false⟩ : Lg) := ⟨_, rfl⟩
       refine vwp_sq [0, 6] fun K22 hK22 => vwp_storm hT hm [.pure, .pure, .pure, .pure, .win 0 0, .win 0 0, .win 0 0, .mv, .pure, .win 0 1, .win 0 1, .win 0 1, .mv, .pure, .pure, .pure, .win 2 2, .win 2 2, .mv, .win 3 3, .win 3 3, .mv] [[], [], [], [], [3], [3, 4], [3, 4, 5], [2, 3, 4, 5, 6], [], [8], [8, 9], [8, 9, 10], [2, 3, 4, 5, 6, 7, 8, 9, 10, 11], [2, 3, 4, 5, 6, 7, 8, 9, 10, 11, 12], [2, 3, 4, 5, 6, 7, 8, 9, 10, 11, 12, 13], [2, 3, 4, 5, 6, 7, 8, 9, 10, 11, 12, 13], [0, 2, 3, 4, 5, 6, 7, 8, 9, 10, 11, 12, 13, 14], [0, 2, 3, 4, 5, 6, 7, 8, 9, 10, 11, 12, 13, 14, 16], [0, 2, 3, 4, 5, 6, 7, 8, 9, 10, 11, 12, 13, 14, 16, 17], [0, 1, 2, 3, 4, 5, 6, 7, 8, 9, 10, 11, 12, 13, 14, 15, 16, 17, 18], [0, 1, 2, 3, 4, 5, 6, 7, 8, 9, 10, 11, 12, 13, 14, 15, 16, 17, 18, 19], [0, 1, 2, 3, 4, 5, 6, 7, 8, 9, 10, 11, 12, 13, 14, 15, 16, 17, 18, 19, 20]] (by kernel_rfl) ?_
       simp [Dk.robs]
       repeat refine ⟨by first | assumption | omega | (intros; omega), ?_⟩
       refine ⟨.sl 1 d2.B.length 1 (h * (32 * (n / 2))) (32 * (n / 2)), [.live [.sl 1 d2.B.length 1 0 d2.B.length, .bool d2.down, .int .i64 d2.fuse, .int .i64 d2.torn, .int .i64 d2.writes], .live (bts d2.B), .live [.ptr 0 5 0, .int .i64 (h : Int), .int .i64 (gen : Int), .nils, .int .i64 0, .bool false]], fun sl => ?_, ?_⟩
       · refine vcall_k [0, 1] (hhf3) ?_ (hh := by simp [Dk.robs])
         rintro r ob' ⟨rfl, rfl⟩
         simp [Dk.robs]
       simp [Dk.robs]
       repeat refine ⟨by first | assumption | omega | (intros; omega), ?_⟩
       refine ⟨.tup [.sl 3 RL.length 1 0 RL.length, .int .i64 (fin : Int)], [.live [.sl 1 d2.B.length 1 0 d2.B.length, .bool d2.down, .int .i64 d2.fuse, .int .i64 d2.torn, .int .i64 d2.writes], .live (bts d2.B), .live [.ptr 0 5 0, .int .i64 (h : Int), .int .i64 (gen : Int), .nils, .int .i64 0, .bool false], .live (RL.map sB)], fun sl => ?_, ?_⟩
       · refine vcall_k [1] (hscn) ?_ (hh := by simp)
         rintro r ob' ⟨rfl, rfl⟩
         simp
       simp [Dk.robs]
       repeat refine ⟨by first | assumption | omega | (intros; omega), ?_⟩
       refine hK22 _ ?_
       try clear hK22 K22
       refine vwp_gh (st' := ⟨[(0, .ptr 0 5 0), (6, .ptr 2 6 0)], [.live [.sl 1 d2.B.length 1 0 d2.B.length, .bool d2.down, .int .i64 d2.fuse, .int .i64 d2.torn, .int .i64 d2.writes], .live (bts d2.B), rlogO 3 g4, .live (g4.rows.map sB)]⟩) (Gh.to_k [0, 6] [0, 1, 2, 3] (hh := by simp [hg4])) ?_
       have hwp := wipe_ref g4 d2 n hd2 hbt2 h fin hh (by omega)
       have hwl := wipeK_log (n := n) (h := h) (down := fin) (n / 2 - fin) g4 d2
       obtain ⟨W, hW⟩ : ∃ W, W = wipeK n h fin (n / 2 - fin) g4 d2 := ⟨_, rfl⟩
       rw [← hW] at hwp hwl
       obtain ⟨we, wg, wd⟩ := W
       dsimp only at hwp hwl
       have hop2 : openL d n = if we = 0 then (some wg, 0, wd) else (none, we, wd) := by
         rw [hop, openR]
         have hgg : (⟨h, gen, [], 0, false⟩ : Lg).had (recsL d2 n h gen) = g4 := by rw [← hrs, hg4, hfin, hRL]; rfl
         simp only [hgg]
         have hf4 : g4.fin = fin := by rw [hg4]
         rw [hf4, ← hW]
       have hgh : g4.half = h := by rw [hg4]
       have hgf : g4.fin = fin := by rw [hg4]
       refine vwp_sq [0, 6] fun K23 hK23 => vwp_storm hT hm [.pure, .pure, .win 0 0, .win 0 0, .win 0 0, .pure, .win 0 0, .win 0 0, .win 0 0, .mv, .pure] [[], [], [1], [1, 2], [1, 2, 3], [], [5], [5, 6], [5, 6, 7], [0, 1, 2, 3, 4, 5, 6, 7, 8], [0, 1, 2, 3, 4, 5, 6, 7, 8, 9]] (by kernel_rfl) ?_
       simp [Dk.robs, hgh, hgf]
       refine ⟨.int .i64 we, wd.robs ++ [rlogO 3 g4, .live (g4.rows.map sB)], fun sl => ?_, ?_⟩
       · refine vcall_k [0, 1] (hwp) ?_ (hh := by simp [Dk.robs])
         rintro r ob' ⟨rfl, rfl⟩
         simp [Dk.robs, hgh, hgf]
       simp [Dk.robs, hgh, hgf]
       refine hK23 _ ?_
       try clear hK23 K23
       refine vwp_seq_k fun K24 hK24 => ?_
       refine vwp_sq [6, 9] fun K25 hK25 => vwp_region hT ?_
       simp [Dk.robs]
       refine hK25 _ ?_
       try clear hK25 K25
       refine vwp_cond (by first | rfl | (simp; rfl)) (fun h7 => ?_) fun h7 => ?_
       · simp -failIfUnchanged at h7; all_goals
        have q := h7
        rw [if_neg (by simpa using q)] at hop2
        refine vwp_sq [9] fun K26 hK26 => vwp_region hT ?_
        simp [Dk.robs]
        refine hK26 _ ?_
        try clear hK26 K26
        refine vwp_ret (hR _ _ ?_)
        exact ret_k [2, 3] [0, 1] (wd.robs) (.tup [.nilp, .int .i64 we]) (by unfold ropenQ; rw [hop2]; exact ⟨rfl, rfl⟩) (hh := by simp [Dk.robs])
       · simp -failIfUnchanged at h7; all_goals
        have q := h7
        have hwe0 : we = 0 := by simpa using q
        rw [if_pos hwe0] at hop2
        have hwg : wg = g4 := by rw [hwl, hwe0, hg4]; rfl
        rw [hwg] at hop2
        refine vwp_skip ?_
        refine hK24 _ ?_
        try clear hK24 K24
        refine vwp_sq [6] fun K27 hK27 => vwp_region hT ?_
        simp [Dk.robs]
        refine hK27 _ ?_
        try clear hK27 K27
        refine vwp_ret (hR _ _ ?_)
        exact ret_k [2, 3] [0, 1, 2, 3] (wd.robs ++ [rlogO 3 g4, .live (g4.rows.map sB)]) (.tup [.ptr 2 6 0, .int .i64 0]) (by unfold ropenQ; rw [hop2]; exact ⟨rfl, rfl⟩) (hh := by simp [Dk.robs, hgh, hgf])
end Go.Proofs.Ytifhbgppjblobaa
