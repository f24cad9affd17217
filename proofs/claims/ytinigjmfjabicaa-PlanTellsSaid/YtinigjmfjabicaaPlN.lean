/- A trip, by the document: the walk. -/
import Derived.Test.YtinigjmfjabicaaPlM
namespace Go.Proofs.Ytinigjmfjabicaa
open Go Go.VX Go.RowKit
set_option linter.unusedVariables false
set_option linter.unusedSimpArgs false
set_option maxHeartbeats 20000000
set_option maxRecDepth 100000

theorem go_tour (n : Int) (D T : List Int) : ∀ (l : List Od) (s : Rn), (goR n D T s l).ds + lg n D (goR n D T s l).nd 0 = s.ds + tour n D s.nd (l.map (·.nd))
  | [], s => by simp [goR, tour]
  | o :: r, s => by
    simp only [goR, go_tour n D T r, List.map_cons, tour, Rn.step]
    omega
def nds (l : List Od) : List Int := l.map (·.nd)
structure KD where (i : Nat) (L : List Od)

structure KE where (i : Nat) (s : Rn) (b : Bool)
theorem drun_spec (w : Wd) (ho : w.os.length < 1099511627776) (ht : w.ts.length < 1099511627776) (r : Rt) (hr : r.st.length < 1099511627776) : VC P 60 [.agg w.c, .agg (Rt.cells r)] [] (fun r' ob' => resT (runP w r) r' ob') := by
  refine VC_of_vwp_c hT ent_60 Try.func60 rfl (by simp) fun R hR => ?_
  refine vwp_sq [0, 1] fun K1 hK1 => vwp_region hT ?_
  simp
  refine hK1 _ ?_
  try clear hK1 K1
  refine vwp_sq [2, 3, 4] fun K2 hK2 => vwp_region hT ?_
  simp
  repeat refine ⟨by first | assumption | omega | (intros; omega), ?_⟩
  refine hK2 _ ?_
  try clear hK2 K2
  refine vwp_sq [2, 3, 4, 6] fun K3 hK3 => vwp_region hT ?_
  simp
  refine vcall_z [] (dworld_spec w ho ht) (by rintro r ob' ⟨rfl, rfl⟩; simp) ?_
  rintro r ob' ⟨rfl, rfl⟩
  simp
  refine hK3 _ ?_
  try clear hK3 K3
  refine vwp_seq_k fun K4 hK4 => ?_
  refine vwp_sq [2, 3, 4, 6, 7] fun K5 hK5 => vwp_region hT ?_
  simp
  refine hK5 _ ?_
  try clear hK5 K5
  refine vwp_cond (by first | rfl | (simp; rfl)) (fun h1 => ?_) fun h1 => ?_
  · simp -failIfUnchanged at h1; all_goals
   have he := h1
   refine vwp_sq [4, 6, 7] fun K6 hK6 => vwp_region hT ?_
   simp
   repeat refine ⟨by first | assumption | omega | (intros; omega), ?_⟩
   refine hK6 _ ?_
   try clear hK6 K6
   refine vwp_ret (hR _ _ ?_)
   have hw : runP w r = (none, w.e) := by
     unfold runP; rw [if_pos he]
   rw [hw]
   exact retc_only [] [] (p := True) (xs := [.agg [.nils, .int .i64 0, .int .i64 0, .int .i64 0], .int .i64 (w.e)]) (xs' := [.agg [.nils, .int .i64 0, .int .i64 0, .int .i64 0], .int .i64 (w.e)]) (by simp) trivial (by simp) (by simp) rfl (by simp) (by simp) rfl (by simp) ⟨rfl, rfl⟩
  · simp -failIfUnchanged at h1; all_goals
   have he : w.e = 0 := by simpa using h1
   have hok := Wd.e_zero.1 he
   have hA := hok.A
   refine vwp_skip ?_
   refine hK4 _ ?_
   try clear hK4 K4
   refine vwp_seq_k fun K7 hK7 => ?_
   refine vwp_sq [2, 3, 4, 6] fun K8 hK8 => vwp_region hT ?_
   simp
   refine hK8 _ ?_
   try clear hK8 K8
   refine vwp_cond (by first | rfl | (simp; rfl)) (fun h2 => ?_) fun h2 => ?_
   · simp -failIfUnchanged at h2; all_goals
    have q := h2
    refine vwp_sq [4, 6] fun K9 hK9 => vwp_region hT ?_
    simp
    repeat refine ⟨by first | assumption | omega | (intros; omega), ?_⟩
    refine hK9 _ ?_
    try clear hK9 K9
    refine vwp_ret (hR _ _ ?_)
    have hw : runP w r = (none, 2) := by
      unfold runP; rw [if_neg (by simp [he]), if_pos (by omega)]
    rw [hw]
    exact retc_only [] [] (p := True) (xs := [.agg [.nils, .int .i64 0, .int .i64 0, .int .i64 0], .int .i64 (2)]) (xs' := [.agg [.nils, .int .i64 0, .int .i64 0, .int .i64 0], .int .i64 (2)]) (by simp) trivial (by simp) (by simp) rfl (by simp) (by simp) rfl (by simp) ⟨rfl, rfl⟩
   · simp -failIfUnchanged at h2; all_goals
    have q := h2
    have hs12 : ¬ (r.st.length = 0 ∨ 12 < r.st.length) := by omega
    refine vwp_skip ?_
    refine hK7 _ ?_
    try clear hK7 K7
    refine vwp_sq [2, 3, 4, 6] fun K10 hK10 => vwp_region hT ?_
    simp
    refine vcall_z [] (dtruckI_spec w ht r.tr) (by rintro r ob' ⟨rfl, rfl⟩; simp) ?_
    rintro r ob' ⟨rfl, rfl⟩
    simp
    refine hK10 _ ?_
    try clear hK10 K10
    refine vwp_seq_k fun K11 hK11 => ?_
    refine vwp_seq_k fun K12 hK12 => ?_
    rcases hk : fndT w.ts r.tr with _ | p
    · refine vwp_live [2, 3, 4, 6, 8] (vwp_region hT ?_)
      simp [hk, oI]
      refine hK12 _ ?_
      try clear hK12 K12
      refine vwp_cond (by first | rfl | (simp; rfl)) (fun h3 => ?_) fun h3 => ?_
      · simp -failIfUnchanged at h3; all_goals
       refine vwp_sq [4, 6] fun K13 hK13 => vwp_region hT ?_
       simp
       repeat refine ⟨by first | assumption | omega | (intros; omega), ?_⟩
       refine hK13 _ ?_
       try clear hK13 K13
       refine vwp_ret (hR _ _ ?_)
       have hw : runP w r = (none, 5) := by
         unfold runP; rw [if_neg (by simp [he]), if_neg (by omega), hk]; rfl
       rw [hw]
       exact retc_only [] [] (p := True) (xs := [.agg [.nils, .int .i64 0, .int .i64 0, .int .i64 0], .int .i64 (5)]) (xs' := [.agg [.nils, .int .i64 0, .int .i64 0, .int .i64 0], .int .i64 (5)]) (by simp) trivial (by simp) (by simp) rfl (by simp) (by simp) rfl (by simp) ⟨rfl, rfl⟩
      · simp -failIfUnchanged at h3; all_goals
       refine vwp_skip ?_
       refine hK11 _ ?_
       try clear hK11 K11
       refine vwp_seq_k fun K14 hK14 => ?_
       simp_all
    · obtain ⟨t, htp, _⟩ := fndT_some hk
      have hpl := (List.getElem?_eq_some_iff.1 htp).1
      have hpn : ¬ ((p : Int) < 0) := by omega
      have hrow := rowTk htp
      have hlen := lenTk w.ts
      have htk := hok.ts t (List.mem_of_getElem? htp)
      refine vwp_live [2, 3, 4, 6, 8] (vwp_region hT ?_)
      simp [hk, oI, hpn]
      refine hK12 _ ?_
      try clear hK12 K12
      refine vwp_cond (by first | rfl | (simp; rfl)) (fun h4 => ?_) fun h4 => ?_
      · simp -failIfUnchanged at h4; all_goals
       refine vwp_seq_k fun K15 hK15 => ?_
       simp_all
      · simp -failIfUnchanged at h4; all_goals
       refine vwp_skip ?_
       refine hK11 _ ?_
       try clear hK11 K11
       refine vwp_sq [2, 3, 4, 6, 8] fun K16 hK16 => vwp_region hT ?_
       simp [hrow, hlen, oI, hk]
       repeat refine ⟨by first | assumption | omega | (intros; omega), ?_⟩
       refine hK16 _ ?_
       try clear hK16 K16
       refine vwp_sq [2, 3, 4, 6, 9] fun K17 hK17 => vwp_region hT ?_
       simp [zerosV]
       refine hK17 _ ?_
       try clear hK17 K17
       refine vwp_sq [2, 3, 4, 6, 9, 10] fun K18 hK18 => vwp_region hT ?_
       simp
       refine hK18 _ ?_
       try clear hK18 K18
       refine vwp_sq [2, 3, 4, 6, 9, 10, 11] fun K19 hK19 => vwp_region hT ?_
       simp
       refine hK19 _ ?_
       try clear hK19 K19
       refine vwp_seq_k fun K20 hK20 => ?_
       refine vwp_sq [2, 3, 4, 6, 9, 10, 11, 12] fun K21 hK21 => vwp_region hT ?_
       simp
       refine hK21 _ ?_
       try clear hK21 K21
       refine vwp_block ?_
       refine vwp_loop_s (fun u : KD => ⟨[(2, .ptr 0 5 0), (3, .ptr 1 2 0), (4, .ptr 2 4 0), (6, .ptr 3 4 0), (9, .ptr 4 7 0), (10, .sl 5 (u.L.length * 8) 8 0 u.L.length), (11, .sl 6 u.L.length 1 0 u.L.length), (12, .bool (dupB (r.st.take u.i))), (13, .int .i64 (u.i : Int))], [.live w.c, .live (Rt.cells r), .live [.nils, .int .i64 0, .int .i64 0, .int .i64 0], .live [.nils, .int .i64 0, .int .i64 0, .int .i64 0], .live (Tk.cells t), .live (rowsV u.L), .live (ints (nds u.L))]⟩) (fun u => u.i ≤ r.st.length ∧ pick w.os (r.st.take u.i) = some u.L) (fun u => r.st.length - u.i) (⟨0, []⟩) (Gh.to_k [2, 3, 4, 6, 9, 10, 11, 12, 13] [0, 1, 2, 3, 4, 5, 6] (he := by simp [dupB_nil]) (hh := by simp [nds])) (⟨by simp, rfl⟩) ?_
       rintro ⟨i, L⟩ ⟨hi, hL⟩
       dsimp only at hi hL ⊢
       have hLl := (pick_len _ hL).1
       rw [List.length_take, Nat.min_eq_left hi] at hLl
       have hrl := lenOd L
       intro K22 hK22
       refine vwp_seq_k fun K23 hK23 => ?_
       refine vwp_sq [2, 3, 4, 6, 9, 10, 11, 12, 13] fun K24 hK24 => vwp_region hT ?_
       simp
       refine hK24 _ ?_
       try clear hK24 K24
       refine vwp_cond (by first | rfl | (simp; rfl)) (fun h5 => ?_) fun h5 => ?_
       · simp -failIfUnchanged at h5; all_goals
        refine vwp_skip ?_
        refine hK23 _ ?_
        try clear hK23 K23
        refine vwp_seq_k fun K25 hK25 => ?_
        refine vwp_block ?_
        obtain ⟨id, hid⟩ := getI (l := r.st) (i := i) (by omega)
        refine vwp_sq [2, 3, 4, 6, 9, 10, 11, 12, 13] fun K26 hK26 => vwp_calm hT hm (by kernel_rfl) ?_
        simp [hid]
        repeat refine ⟨by first | assumption | omega | (intros; omega), ?_⟩
        refine ⟨.int .i64 (oI (fndO w.os id)), fun sl => ?_, ?_⟩
        · refine vcall_z [] (dfind_spec w.os ho id) (by rintro r ob' ⟨rfl, rfl⟩; simp) ?_
          rintro r ob' ⟨rfl, rfl⟩
          simp
        simp [hid]
        repeat refine ⟨by first | assumption | omega | (intros; omega), ?_⟩
        refine hK26 _ ?_
        try clear hK26 K26
        refine vwp_seq_k fun K27 hK27 => ?_
        refine vwp_seq_k fun K28 hK28 => ?_
        rcases hf : fndO w.os id with _ | q
        · refine vwp_live [2, 3, 4, 6, 9, 10, 11, 12, 13, 14] (vwp_region hT ?_)
          simp [hf, oI]
          refine hK28 _ ?_
          try clear hK28 K28
          refine vwp_cond (by first | rfl | (simp; rfl)) (fun h6 => ?_) fun h6 => ?_
          · simp -failIfUnchanged at h6; all_goals
           refine vwp_sq [4, 6] fun K29 hK29 => vwp_region hT ?_
           simp
           repeat refine ⟨by first | assumption | omega | (intros; omega), ?_⟩
           refine hK29 _ ?_
           try clear hK29 K29
           refine vwp_ret (hR _ _ ?_)
           have hw : runP w r = (none, 5) := by
             have hq : ordsP w.os r.st = (none, 5) := by
               unfold ordsP
               rw [split_at hid, pick_none _ hf]
             unfold runP; rw [if_neg (by simp [he]), if_neg (by omega), hk]; show runT w r (some p) = _; simp only [runT, htp]; rw [hq]; rfl
           rw [hw]
           exact retc_only [] [] (p := True) (xs := [.agg [.nils, .int .i64 0, .int .i64 0, .int .i64 0], .int .i64 (5)]) (xs' := [.agg [.nils, .int .i64 0, .int .i64 0, .int .i64 0], .int .i64 (5)]) (by simp) trivial (by simp) (by simp) rfl (by simp) (by simp) rfl (by simp) ⟨rfl, rfl⟩
          · simp -failIfUnchanged at h6; all_goals
           refine vwp_skip ?_
           refine hK27 _ ?_
           try clear hK27 K27
           refine vwp_seq_k fun K30 hK30 => ?_
           refine vwp_seq_k fun K31 hK31 => ?_
           simp_all
        · obtain ⟨o, ho2, hoid⟩ := fndO_some hf
          have hqn : ¬ ((q : Int) < 0) := by omega
          have hrow2 := rowOd ho2
          obtain ⟨_, _, gnd, _⟩ := getOd ho2
          have hleno := lenOd w.os
          have hql := (List.getElem?_eq_some_iff.1 ho2).1
          refine vwp_live [2, 3, 4, 6, 9, 10, 11, 12, 13, 14] (vwp_region hT ?_)
          simp [hf, oI, hqn]
          refine hK28 _ ?_
          try clear hK28 K28
          refine vwp_cond (by first | rfl | (simp; rfl)) (fun h7 => ?_) fun h7 => ?_
          · simp -failIfUnchanged at h7; all_goals
           refine vwp_seq_k fun K32 hK32 => ?_
           simp_all
          · simp -failIfUnchanged at h7; all_goals
           obtain ⟨b0, hb0⟩ : ∃ b0, b0 = dupB (r.st.take i) := ⟨_, rfl⟩
           rw [← hb0]
           refine vwp_skip ?_
           refine hK27 _ ?_
           try clear hK27 K27
           refine vwp_seq_k fun K33 hK33 => ?_
           refine vwp_sq [2, 3, 4, 6, 9, 10, 11, 12, 13, 14] fun K34 hK34 => vwp_region hT ?_
           simp
           refine hK34 _ ?_
           try clear hK34 K34
           refine vwp_block ?_
           refine vwp_loop_s (fun k : Nat => ⟨[(2, .ptr 0 5 0), (3, .ptr 1 2 0), (4, .ptr 2 4 0), (6, .ptr 3 4 0), (9, .ptr 4 7 0), (10, .sl 5 (L.length * 8) 8 0 L.length), (11, .sl 6 L.length 1 0 L.length), (12, .bool (b0 || hasB (r.st.take k) id)), (13, .int .i64 (i : Int)), (14, .int .i64 (q : Int)), (15, .int .i64 (k : Int))], [.live w.c, .live (Rt.cells r), .live [.nils, .int .i64 0, .int .i64 0, .int .i64 0], .live [.nils, .int .i64 0, .int .i64 0, .int .i64 0], .live (Tk.cells t), .live (rowsV L), .live (ints (nds L))]⟩) (fun k => k ≤ i) (fun k => i - k) (0) (Gh.to_k [2, 3, 4, 6, 9, 10, 11, 12, 13, 14, 15] [0, 1, 2, 3, 4, 5, 6] (he := by simp [hasB_nil, hf, oI])) (by omega) ?_
           rintro k hk2
           intro K35 hK35
           refine vwp_seq_k fun K36 hK36 => ?_
           refine vwp_sq [2, 3, 4, 6, 9, 10, 11, 12, 13, 14, 15] fun K37 hK37 => vwp_region hT ?_
           simp
           refine hK37 _ ?_
           try clear hK37 K37
           refine vwp_cond (by first | rfl | (simp; rfl)) (fun h8 => ?_) fun h8 => ?_
           · simp -failIfUnchanged at h8; all_goals
            refine vwp_skip ?_
            refine hK36 _ ?_
            try clear hK36 K36
            refine vwp_seq_k fun K38 hK38 => ?_
            refine vwp_block ?_
            obtain ⟨y, hy⟩ := getI (l := r.st) (i := k) (by omega)
            have hsn : (b0 || hasB (r.st.take (k + 1)) id) = ((b0 || hasB (r.st.take k) id) || (y == id)) := by
              rw [any_snoc (x := id) hy, Bool.or_assoc]
            rcases hc : (b0 || hasB (r.st.take k) id) with _ | _
            · refine vwp_live [2, 3, 4, 6, 9, 10, 11, 12, 13, 14, 15] (vwp_still hT hm (by kernel_rfl) ?_)
              simp [hc, hy, hid]
              repeat refine ⟨by first | assumption | omega | (intros; omega), ?_⟩
              refine hK38 _ ?_
              try clear hK38 K38
              have w1 : IntKind.i64.wrap ((k : Int) + 1) = k + 1 := w64 (by omega) (by omega)
              refine vwp_live [2, 3, 4, 6, 9, 10, 11, 12, 13, 14, 15] (vwp_region hT ?_)
              simp [w1]
              exact hK35 (k + 1) _ (Gh.to_k [2, 3, 4, 6, 9, 10, 11, 12, 13, 14, 15] [0, 1, 2, 3, 4, 5, 6] (he := by simp [hc, hsn])) (by omega) (by omega)
            · refine vwp_live [2, 3, 4, 6, 9, 10, 11, 12, 13, 14, 15] (vwp_still hT hm (by kernel_rfl) ?_)
              simp [hc, hy, hid]
              repeat refine ⟨by first | assumption | omega | (intros; omega), ?_⟩
              refine hK38 _ ?_
              try clear hK38 K38
              have w1 : IntKind.i64.wrap ((k : Int) + 1) = k + 1 := w64 (by omega) (by omega)
              refine vwp_live [2, 3, 4, 6, 9, 10, 11, 12, 13, 14, 15] (vwp_region hT ?_)
              simp [w1]
              exact hK35 (k + 1) _ (Gh.to_k [2, 3, 4, 6, 9, 10, 11, 12, 13, 14, 15] [0, 1, 2, 3, 4, 5, 6] (he := by simp [hc, hsn])) (by omega) (by omega)
           · simp -failIfUnchanged at h8; all_goals
            obtain rfl : i = k := by omega
            have hnew : dupB (r.st.take (i + 1)) = (b0 || hasB (r.st.take i) id) := by rw [take_snoc hid, dupB_snoc, ← hb0]
            refine vwp_exit ?_
            simp only [inBlk, thenQ, if_true]
            refine hK33 _ ?_
            try clear hK33 K33
            refine vwp_sq [2, 3, 4, 6, 9, 10, 11, 12, 13, 14] fun K39 hK39 => vwp_region hT ?_
            simp [hrow2, hleno, hrl, zerosV, spl]
            repeat refine ⟨by first | assumption | omega | (intros; omega), ?_⟩
            refine hK39 _ ?_
            try clear hK39 K39
            have hnl : (nds L).length = L.length := by simp [nds]
            refine vwp_live [2, 3, 4, 6, 9, 10, 11, 12, 13, 14] (vwp_region hT ?_)
            simp [gnd, hleno, hnl]
            repeat refine ⟨by first | assumption | omega | (intros; omega), ?_⟩
            refine hK25 _ ?_
            try clear hK25 K25
            have w1 : IntKind.i64.wrap ((i : Int) + 1) = i + 1 := w64 (by omega) (by omega)
            refine vwp_live [2, 3, 4, 6, 9, 10, 11, 12, 13] (vwp_region hT ?_)
            simp [w1]
            exact hK22 (⟨i + 1, L ++ [o]⟩) _ (Gh.to_k [2, 3, 4, 6, 9, 10, 11, 12, 13] [0, 1, 2, 3, 4, 5, 6] (he := by simp [hnew]) (hh := by simp [rowsV_snoc, nds])) (⟨by dsimp only; omega, by dsimp only; rw [take_snoc hid]; exact pick_snoc _ hL hf ho2⟩) (by dsimp only; omega)
       · simp -failIfUnchanged at h5; all_goals
        refine vwp_exit ?_
        simp only [inBlk, thenQ, if_true]
        refine hK20 _ ?_
        try clear hK20 K20
        refine vwp_seq_k fun K40 hK40 => ?_
        obtain rfl : i = r.st.length := by omega
        rw [List.take_length] at hL ⊢
        obtain ⟨hsm, hll, hlo⟩ := pick_small hok hL (by omega)
        refine vwp_sq [2, 4, 6, 9, 10, 11, 12] fun K41 hK41 => vwp_region hT ?_
        simp
        refine hK41 _ ?_
        try clear hK41 K41
        refine vwp_cond (by first | rfl | (simp; rfl)) (fun h9 => ?_) fun h9 => ?_
        · simp -failIfUnchanged at h9; all_goals
         have q := h9
         refine vwp_sq [4, 6] fun K42 hK42 => vwp_region hT ?_
         simp
         repeat refine ⟨by first | assumption | omega | (intros; omega), ?_⟩
         refine hK42 _ ?_
         try clear hK42 K42
         refine vwp_ret (hR _ _ ?_)
         have hw : runP w r = (none, 6) := by
           have hq : ordsP w.os r.st = (none, 6) := by
             unfold ordsP
             rw [hL]
             simp only [dupB] at q
             simp_all
           unfold runP; rw [if_neg (by simp [he]), if_neg (by omega), hk]; show runT w r (some p) = _; simp only [runT, htp]; rw [hq]; rfl
         rw [hw]
         exact retc_only [] [] (p := True) (xs := [.agg [.nils, .int .i64 0, .int .i64 0, .int .i64 0], .int .i64 (6)]) (xs' := [.agg [.nils, .int .i64 0, .int .i64 0, .int .i64 0], .int .i64 (6)]) (by simp) trivial (by simp) (by simp) rfl (by simp) (by simp) rfl (by simp) ⟨rfl, rfl⟩
        · simp -failIfUnchanged at h9; all_goals
         have q := h9
         have hrp : runP w r = (if carE t L ≠ 0 then (none, carE t L) else tripP w t L) := by
           have hq : ordsP w.os r.st = (some L, 0) := by
             unfold ordsP
             rw [hL]
             simp only [dupB] at q
             simp_all
           unfold runP; rw [if_neg (by simp [he]), if_neg (by omega), hk]; show runT w r (some p) = _; simp only [runT, htp]; rw [hq]; rfl
         have htl : List.take (L.length * 8) (rowsV L) = rowsV L := List.take_of_length_le (by omega)
         have ht11 : List.take L.length (ints (nds L)) = ints (nds L) := List.take_of_length_le (by simp [nds])
         refine vwp_skip ?_
         refine hK40 _ ?_
         try clear hK40 K40
         refine vwp_sq [2, 4, 6, 9, 10, 11] fun K43 hK43 => vwp_region hT ?_
         simp [htl]
         refine vcall_z [] (dcarries_spec t L hsm) (by rintro r ob' ⟨rfl, rfl⟩; simp) ?_ (ha := by simp [htl]) (hok := by simp [hrl]; intro c hc; obtain ⟨n, rfl⟩ := odC hc; rfl)
         rintro r ob' ⟨rfl, rfl⟩
         simp [htl]
         refine hK43 _ ?_
         try clear hK43 K43
         refine vwp_seq_k fun K44 hK44 => ?_
         refine vwp_seq_k fun K45 hK45 => ?_
         by_cases hcar : carE t L = 0
         · refine vwp_live [2, 4, 6, 9, 10, 11, 16] (vwp_region hT ?_)
           simp [hcar]
           refine hK45 _ ?_
           try clear hK45 K45
           refine vwp_cond (by first | rfl | (simp; rfl)) (fun h10 => ?_) fun h10 => ?_
           · simp -failIfUnchanged at h10; all_goals
            refine vwp_seq_k fun K46 hK46 => ?_
            simp_all
           · simp -failIfUnchanged at h10; all_goals
            refine vwp_skip ?_
            refine hK44 _ ?_
            try clear hK44 K44
            refine vwp_sq [2, 4, 6, 9, 10, 11] fun K47 hK47 => vwp_region hT ?_
            simp
            repeat refine ⟨by first | assumption | omega | (intros; omega), ?_⟩
            refine hK47 _ ?_
            try clear hK47 K47
            refine vwp_sq [2, 4, 6, 9, 10, 11, 17] fun K48 hK48 => vwp_region hT ?_
            simp
            refine hK48 _ ?_
            try clear hK48 K48
            refine vwp_sq [2, 4, 6, 9, 10, 11, 17, 18] fun K49 hK49 => vwp_region hT ?_
            simp
            refine hK49 _ ?_
            try clear hK49 K49
            refine vwp_sq [2, 4, 6, 9, 10, 11, 17, 18, 19] fun K50 hK50 => vwp_region hT ?_
            simp
            refine hK50 _ ?_
            try clear hK50 K50
            refine vwp_seq_k fun K51 hK51 => ?_
            refine vwp_sq [2, 4, 6, 9, 10, 11, 17, 18, 19, 20] fun K52 hK52 => vwp_region hT ?_
            simp
            refine hK52 _ ?_
            try clear hK52 K52
            refine vwp_block ?_
            refine vwp_gh (Gh.virtC 7 0 4 rfl rfl) ?_
            simp
            refine vwp_loop_s (fun u : KE => ⟨[(2, .ptr 0 5 0), (4, .ptr 2 4 0), (6, .ptr 3 4 0), (9, .ptr 4 7 0), (10, .sl 5 (L.length * 8) 8 0 L.length), (11, .sl 6 L.length 1 0 L.length), (17, .ptr 7 4 0), (18, .int .i64 u.s.tm), (19, .int .i64 u.s.nd), (20, .bool u.b), (21, .int .i64 (u.i : Int))], [.live w.c, .live (Rt.cells r), .live [.nils, .int .i64 0, .int .i64 0, .int .i64 0], .live [.nils, .int .i64 0, .int .i64 0, .int .i64 0], .live (Tk.cells t), .live (rowsV L), .live (ints (nds L)), .live [.sl 8 (u.s.vs.length * 4) 4 0 u.s.vs.length, .int .i64 0, .int .i64 0, .int .i64 0], .live (rowsV u.s.vs)]⟩) (fun u => u.i ≤ L.length ∧ u.s.fine w.n u.i ∧ lateB w.n w.D w.T (Wd.s0 t) L = (u.b || lateB w.n w.D w.T u.s (L.drop u.i)) ∧ goR w.n w.D w.T (Wd.s0 t) L = goR w.n w.D w.T u.s (L.drop u.i)) (fun u => L.length - u.i) (⟨0, Wd.s0 t, false⟩) (Gh.to_k [2, 4, 6, 9, 10, 11, 17, 18, 19, 20, 21] [0, 1, 2, 3, 4, 5, 6, 7, 8] (he := by simp [Wd.s0]) (hh := by simp [Wd.s0])) (⟨by simp, ⟨by simp [Wd.s0]; exact (areaB_n hA).1, by simp [Wd.s0]; have := trkB_iff.1 htk; omega, by simp [Wd.s0], by simp [Wd.s0]⟩, by simp, by simp⟩) ?_
            rintro ⟨i, s2, b⟩ ⟨hi, hfi, hla, hgo⟩
            dsimp only at hi hfi hla hgo ⊢
            have hvl := hfi.vs
            intro K53 hK53
            refine vwp_seq_k fun K54 hK54 => ?_
            refine vwp_sq [2, 4, 6, 9, 10, 11, 17, 18, 19, 20, 21] fun K55 hK55 => vwp_region hT ?_
            simp [hrl]
            refine hK55 _ ?_
            try clear hK55 K55
            refine vwp_cond (by first | rfl | (simp; rfl)) (fun h11 => ?_) fun h11 => ?_
            · simp -failIfUnchanged at h11; all_goals
             refine vwp_skip ?_
             refine hK54 _ ?_
             try clear hK54 K54
             refine vwp_seq_k fun K56 hK56 => ?_
             refine vwp_block ?_
             obtain ⟨o, ho2⟩ := getI (l := L) (i := i) (by omega)
             obtain ⟨g0, _, g2, _, _, g5, g6, g7⟩ := getOd ho2
             have hdr := dropAt ho2
             have hob := hlo o (List.mem_of_getElem? ho2)
             obtain ⟨hst1, bT, bD, bB⟩ := hfi.step hA hob
             have hnd : 0 ≤ o.nd ∧ o.nd < w.n := by have := ordB_iff.1 hob; omega
             have hse := (ordB_iff.1 hob).2.2.2.2.2.2.2
             have htm := hfi.tm
             have hil : i * 8 + 7 < L.length * 8 := by omega
             refine vwp_sq [2, 4, 6, 9, 10, 11, 17, 18, 19, 20, 21] fun K57 hK57 => vwp_calm hT hm (by kernel_rfl) ?_
             simp [g2, hrl]
             repeat refine ⟨by first | assumption | omega | (intros; omega), ?_⟩
             refine ⟨.tup [.int .i64 (lg w.n w.D s2.nd o.nd), .int .i64 (lg w.n w.T s2.nd o.nd), .int .i64 0], fun sl => ?_, ?_⟩
             · refine vcall_z [] (rleg_spec hA s2.nd o.nd hfi.nd hnd) (by rintro r ob' ⟨rfl, rfl⟩; simp) ?_
               rintro r ob' ⟨rfl, rfl⟩
               simp
             simp [g2, hrl]
             repeat refine ⟨by first | assumption | omega | (intros; omega), ?_⟩
             refine hK57 _ ?_
             try clear hK57 K57
             have w2 : IntKind.i64.wrap (s2.tm + lg w.n w.T s2.nd o.nd) = s2.tm + lg w.n w.T s2.nd o.nd := w64 (by omega) (by omega)
             have hbeg : (if s2.tm + lg w.n w.T s2.nd o.nd < o.fr then o.fr else s2.tm + lg w.n w.T s2.nd o.nd) = s2.beg w.n w.T o := rfl
             obtain ⟨bg, hbg⟩ : ∃ bg, bg = s2.beg w.n w.T o := ⟨_, rfl⟩
             rw [← hbg] at hbeg bB
             have w3 : IntKind.i64.wrap (bg + o.se) = bg + o.se := w64 (by omega) (by omega)
             refine vwp_sq [2, 4, 6, 9, 10, 11, 17, 18, 20, 21, 23] fun K58 hK58 => vwp_region hT ?_
             simp [g0, w2, hrl]
             repeat refine ⟨by first | assumption | omega | (intros; omega), ?_⟩
             refine hK58 _ ?_
             try clear hK58 K58
             refine vwp_sq [2, 4, 6, 9, 10, 11, 17, 20, 21, 25] fun K59 hK59 => vwp_region hT ?_
             simp
             repeat refine ⟨by first | assumption | omega | (intros; omega), ?_⟩
             refine hK59 _ ?_
             try clear hK59 K59
             refine vwp_cut_s (fun _ : Unit => ⟨[(2, .ptr 0 5 0), (4, .ptr 2 4 0), (6, .ptr 3 4 0), (9, .ptr 4 7 0), (10, .sl 5 (L.length * 8) 8 0 L.length), (11, .sl 6 L.length 1 0 L.length), (17, .ptr 7 4 0), (20, .bool b), (21, .int .i64 (i : Int)), (25, .ptr 9 4 0)], [.live w.c, .live (Rt.cells r), .live [.nils, .int .i64 0, .int .i64 0, .int .i64 0], .live [.nils, .int .i64 0, .int .i64 0, .int .i64 0], .live (Tk.cells t), .live (rowsV L), .live (ints (nds L)), .live [.sl 8 (s2.vs.length * 4) 4 0 s2.vs.length, .int .i64 0, .int .i64 0, .int .i64 0], .live (rowsV s2.vs)] ++ [.live [.int .i64 o.id, .int .i64 (s2.tm + lg w.n w.T s2.nd o.nd), .int .i64 bg, .int .i64 0]]⟩) (fun _ => True) (fun K60 hK60 => ?_) ?_
             · refine vwp_sq [2, 4, 6, 9, 10, 11, 17, 20, 21, 25] fun K61 hK61 => vwp_still hT hm (by kernel_rfl) ?_
               simp [g5, hrl]
               repeat refine ⟨by first | assumption | omega | (intros; omega), ?_⟩
               refine hK61 _ ?_
               try clear hK61 K61
               refine vwp_cond (by first | rfl | (simp; rfl)) (fun h12 => ?_) fun h12 => ?_
               · simp -failIfUnchanged at h12; all_goals
                have q := h12
                have hbe2 : bg = o.fr := by rw [← hbeg, if_pos q]
                refine vwp_live [2, 4, 6, 9, 10, 11, 17, 20, 21, 25] (vwp_region hT ?_)
                simp [g5, hrl]
                repeat refine ⟨by first | assumption | omega | (intros; omega), ?_⟩
                exact hK60 (()) _ (Gh.to_k [2, 4, 6, 9, 10, 11, 17, 20, 21, 25] [0, 1, 2, 3, 4, 5, 6, 7, 8, 9] (he := by simp) (hh := by simp [hbe2])) (trivial)
               · simp -failIfUnchanged at h12; all_goals
                have q := h12
                have hbe2 : bg = s2.tm + lg w.n w.T s2.nd o.nd := by rw [← hbeg, if_neg (by omega)]
                refine vwp_skip ?_
                exact hK60 (()) _ (Gh.to_k [2, 4, 6, 9, 10, 11, 17, 20, 21, 25] [0, 1, 2, 3, 4, 5, 6, 7, 8, 9] (he := by simp) (hh := by simp [hbe2])) (trivial)
             · rintro _ _
               simp only [List.cons_append, List.nil_append]
               refine vwp_sq [2, 4, 6, 9, 10, 11, 17, 20, 21, 25] fun K62 hK62 => vwp_storm hT hm [.win 0 0, .win 0 0, .pure, .pure, .win 0 0, .win 0 0, .win 0 0, .win 0 0, .win 0 0, .mv] [[], [0], [], [], [2, 3], [2, 3, 4], [2, 3, 4, 5], [0, 1, 2, 3, 4, 5, 6], [0, 1, 2, 3, 4, 5, 6, 7], [0, 1, 2, 3, 4, 5, 6, 7, 8]] (by kernel_rfl) ?_
               simp [g7, hrl, w3]
               repeat refine ⟨by first | assumption | omega | (intros; omega), ?_⟩
               refine hK62 _ ?_
               try clear hK62 K62
               refine vwp_seq_k fun K63 hK63 => ?_
               have hdc : (!decide (bg ≤ o.to)) = decide (o.to < bg) := by
                 rw [Bool.eq_iff_iff, Bool.not_eq_true', decide_eq_false_iff_not, decide_eq_true_eq]; omega
               obtain ⟨b1, hb1⟩ : ∃ b1, b1 = (b || decide (o.to < bg)) := ⟨_, rfl⟩
               have hla2 : lateB w.n w.D w.T (Wd.s0 t) L = (b1 || lateB w.n w.D w.T (s2.step w.n w.D w.T o) (L.drop (i + 1))) := by rw [hla, hdr, lateB, ← hbg, hdc, hb1, Bool.or_assoc]
               rcases b with _ | _
               · refine vwp_live [2, 4, 6, 9, 10, 11, 17, 20, 21, 25] (vwp_still hT hm (by kernel_rfl) ?_)
                 simp [g6, hrl]
                 repeat refine ⟨by first | assumption | omega | (intros; omega), ?_⟩
                 refine hK63 _ ?_
                 try clear hK63 K63
                 have hll2 := lenVs s2.vs
                 refine vwp_sq [2, 4, 6, 9, 10, 11, 17, 20, 21, 25] fun K64 hK64 => vwp_region hT ?_
                 simp [hll2, zerosV, spl]
                 repeat refine ⟨by first | assumption | omega | (intros; omega), ?_⟩
                 refine hK64 _ ?_
                 try clear hK64 K64
                 refine vwp_sq [2, 4, 6, 9, 10, 11, 17, 20, 21, 25] fun K65 hK65 => vwp_region hT ?_
                 simp
                 refine hK65 _ ?_
                 try clear hK65 K65
                 refine vwp_live [2, 4, 6, 9, 10, 11, 17, 18, 20, 21] (vwp_region hT ?_)
                 simp [g2, hrl]
                 repeat refine ⟨by first | assumption | omega | (intros; omega), ?_⟩
                 refine hK56 _ ?_
                 try clear hK56 K56
                 have w1 : IntKind.i64.wrap ((i : Int) + 1) = i + 1 := w64 (by omega) (by omega)
                 refine vwp_live [2, 4, 6, 9, 10, 11, 17, 18, 19, 20, 21] (vwp_region hT ?_)
                 simp [w1]
                 exact hK53 (⟨i + 1, s2.step w.n w.D w.T o, b1⟩) _ (Gh.to_k [2, 4, 6, 9, 10, 11, 17, 18, 19, 20, 21] [0, 1, 2, 3, 4, 5, 6, 7, 8] (he := by simp [Rn.step, ← hbg, hb1]) (hh := by simp [Rn.step, ← hbg, rowsV_snoc])) (⟨by dsimp only; omega, hst1, hla2, by dsimp only; rw [hgo, hdr, goR]⟩) (by dsimp only; omega)
               · refine vwp_live [2, 4, 6, 9, 10, 11, 17, 20, 21, 25] (vwp_still hT hm (by kernel_rfl) ?_)
                 simp [g6, hrl]
                 repeat refine ⟨by first | assumption | omega | (intros; omega), ?_⟩
                 refine hK63 _ ?_
                 try clear hK63 K63
                 have hll2 := lenVs s2.vs
                 refine vwp_sq [2, 4, 6, 9, 10, 11, 17, 20, 21, 25] fun K66 hK66 => vwp_region hT ?_
                 simp [hll2, zerosV, spl]
                 repeat refine ⟨by first | assumption | omega | (intros; omega), ?_⟩
                 refine hK66 _ ?_
                 try clear hK66 K66
                 refine vwp_sq [2, 4, 6, 9, 10, 11, 17, 20, 21, 25] fun K67 hK67 => vwp_region hT ?_
                 simp
                 refine hK67 _ ?_
                 try clear hK67 K67
                 refine vwp_live [2, 4, 6, 9, 10, 11, 17, 18, 20, 21] (vwp_region hT ?_)
                 simp [g2, hrl]
                 repeat refine ⟨by first | assumption | omega | (intros; omega), ?_⟩
                 refine hK56 _ ?_
                 try clear hK56 K56
                 have w1 : IntKind.i64.wrap ((i : Int) + 1) = i + 1 := w64 (by omega) (by omega)
                 refine vwp_live [2, 4, 6, 9, 10, 11, 17, 18, 19, 20, 21] (vwp_region hT ?_)
                 simp [w1]
                 exact hK53 (⟨i + 1, s2.step w.n w.D w.T o, b1⟩) _ (Gh.to_k [2, 4, 6, 9, 10, 11, 17, 18, 19, 20, 21] [0, 1, 2, 3, 4, 5, 6, 7, 8] (he := by simp [Rn.step, ← hbg, hb1]) (hh := by simp [Rn.step, ← hbg, rowsV_snoc])) (⟨by dsimp only; omega, hst1, hla2, by dsimp only; rw [hgo, hdr, goR]⟩) (by dsimp only; omega)
            · simp -failIfUnchanged at h11; all_goals
             refine vwp_exit ?_
             simp only [inBlk, thenQ, if_true]
             refine hK51 _ ?_
             try clear hK51 K51
             obtain rfl : i = L.length := by omega
             rw [List.drop_length] at hla hgo
             rw [lateB, Bool.or_false] at hla
             rw [goR] at hgo
             have hnd0 : (0 : Int) ≤ 0 ∧ (0 : Int) < w.n := ⟨by omega, by have := areaB_n hA; omega⟩
             have htm := hfi.tm
             obtain ⟨_, _, _, _, _, _, _, _, _, _, _, _, _, _, bD, bT⟩ := lg_get hA hfi.nd hnd0
             obtain ⟨_, _, _, _, _, b1, b2, b3⟩ := trkB_iff.1 htk
             refine vwp_sq [2, 4, 6, 9, 11, 17, 18, 19, 20] fun K68 hK68 => vwp_region hT ?_
             simp
             refine vcall_z [] (rleg_spec hA s2.nd 0 hfi.nd hnd0) (by rintro r ob' ⟨rfl, rfl⟩; simp) ?_
             rintro r ob' ⟨rfl, rfl⟩
             simp
             refine hK68 _ ?_
             try clear hK68 K68
             have w2 : IntKind.i64.wrap (s2.tm + lg w.n w.T s2.nd 0) = s2.tm + lg w.n w.T s2.nd 0 := w64 (by omega) (by omega)
             refine vwp_sq [2, 4, 6, 9, 11, 17, 18, 20, 27] fun K69 hK69 => vwp_region hT ?_
             simp [w2]
             repeat refine ⟨by first | assumption | omega | (intros; omega), ?_⟩
             refine hK69 _ ?_
             try clear hK69 K69
             refine vwp_seq_k fun K70 hK70 => ?_
             refine vwp_seq_k fun K71 hK71 => ?_
             have htp2 : tripP w t L = if b = true ∨ t.en < s2.tm + lg w.n w.T s2.nd 0 then (none, 10) else (some ⟨s2.vs, s2.tm + lg w.n w.T s2.nd 0, s2.ds + lg w.n w.D s2.nd 0, t.fx + t.ra * (s2.ds + lg w.n w.D s2.nd 0)⟩, 0) := by rw [tripP, hla, hgo]
             rcases b with _ | _
             · refine vwp_live [2, 4, 6, 9, 11, 17, 20] (vwp_region hT ?_)
               simp
               refine hK71 _ ?_
               try clear hK71 K71
               refine vwp_cond (by first | rfl | (simp; rfl)) (fun h13 => ?_) fun h13 => ?_
               · simp -failIfUnchanged at h13; all_goals
                have q := h13
                refine vwp_sq [4, 6] fun K72 hK72 => vwp_region hT ?_
                simp
                repeat refine ⟨by first | assumption | omega | (intros; omega), ?_⟩
                refine hK72 _ ?_
                try clear hK72 K72
                refine vwp_ret (hR _ _ ?_)
                have hw : runP w r = (none, 10) := by
                  rw [hrp, if_neg (by simp [hcar]), htp2, if_pos (.inr q)]
                rw [hw]
                exact retc_only [] [] (p := True) (xs := [.agg [.nils, .int .i64 0, .int .i64 0, .int .i64 0], .int .i64 (10)]) (xs' := [.agg [.nils, .int .i64 0, .int .i64 0, .int .i64 0], .int .i64 (10)]) (by simp) trivial (by simp) (by simp) rfl (by simp) (by simp) rfl (by simp) ⟨rfl, rfl⟩
               · simp -failIfUnchanged at h13; all_goals
                have q := h13
                have hw : runP w r = (some ⟨s2.vs, s2.tm + lg w.n w.T s2.nd 0, s2.ds + lg w.n w.D s2.nd 0, t.fx + t.ra * (s2.ds + lg w.n w.D s2.nd 0)⟩, 0) := by
                  rw [hrp, if_neg (by simp [hcar]), htp2, if_neg (by rintro (k | k); cases k; omega)]
                have hgt := go_tour w.n w.D w.T L (Wd.s0 t)
                rw [hgo] at hgt
                have hs0 : (Wd.s0 t).ds + tour w.n w.D (Wd.s0 t).nd (nds L) = tour w.n w.D 0 (nds L) := by simp [Wd.s0]
                rw [show L.map (·.nd) = nds L from rfl, hs0] at hgt
                obtain ⟨di, hdi⟩ : ∃ di, di = tour w.n w.D 0 (nds L) := ⟨_, rfl⟩
                rw [hgt, ← hdi] at hw
                have hni : ∀ x ∈ nds L, 0 ≤ x ∧ x < w.n := by
                  intro x hx
                  obtain ⟨o, ho2, rfl⟩ := List.mem_map.1 hx
                  have := ordB_iff.1 (hlo o ho2)
                  omega
                have hnl : (nds L).length = L.length := by simp [nds]
                have htb := tour_bounds hA (nds L) 0 hnd0 hni
                rw [← hdi, hnl] at htb
                have hmu := mul_small (a := t.ra) (b := di) (by omega) (by omega) (by omega) (by omega)
                have w3 : IntKind.i64.wrap (t.ra * di) = t.ra * di := w64 (by omega) (by omega)
                have w4 : IntKind.i64.wrap (t.fx + t.ra * di) = t.fx + t.ra * di := w64 (by omega) (by omega)
                refine vwp_skip ?_
                refine hK70 _ ?_
                try clear hK70 K70
                refine vwp_sq [2, 4, 9, 11, 17] fun K73 hK73 => vwp_region hT ?_
                simp [ht11, hnl, ← hdi]
                repeat refine ⟨by first | assumption | omega | (intros; omega), ?_⟩
                refine vcall_z [] (rtour_spec hA (nds L) (by omega) hni) (by rintro r ob' ⟨rfl, rfl⟩; simp) ?_ (ha := by simp [ht11, hnl]) (hok := by simp [hnl])
                rintro r ob' ⟨rfl, rfl⟩
                simp [ht11, hnl, ← hdi]
                repeat refine ⟨by first | assumption | omega | (intros; omega), ?_⟩
                refine hK73 _ ?_
                try clear hK73 K73
                refine vwp_sq [4, 9, 17] fun K74 hK74 => vwp_region hT ?_
                simp [w3, w4]
                repeat refine ⟨by first | assumption | omega | (intros; omega), ?_⟩
                refine hK74 _ ?_
                try clear hK74 K74
                refine vwp_sq [4, 17] fun K75 hK75 => vwp_region hT ?_
                simp
                repeat refine ⟨by first | assumption | omega | (intros; omega), ?_⟩
                refine hK75 _ ?_
                try clear hK75 K75
                refine vwp_ret (hR _ _ ?_)
                rw [hw]
                exact retc_only [8] [.live (rowsV s2.vs)] (p := True) (xs := [.agg [.sl 8 (s2.vs.length * 4) 4 0 s2.vs.length, .int .i64 (s2.tm + lg w.n w.T s2.nd 0), .int .i64 di, .int .i64 (t.fx + t.ra * di)], .int .i64 0]) (xs' := [.agg [.sl 0 (s2.vs.length * 4) 4 0 s2.vs.length, .int .i64 (s2.tm + lg w.n w.T s2.nd 0), .int .i64 di, .int .i64 (t.fx + t.ra * di)], .int .i64 0]) (by simp) trivial (by simp) (by simp) rfl (by simp) (by simp) rfl (by simp) ⟨rfl, rfl⟩
             · refine vwp_live [2, 4, 6, 9, 11, 17, 20] (vwp_region hT ?_)
               simp [Bool.true_or]
               refine hK71 _ ?_
               try clear hK71 K71
               refine vwp_cond (by first | rfl | (simp; rfl)) (fun h14 => ?_) fun h14 => ?_
               · simp -failIfUnchanged at h14; all_goals
                refine vwp_sq [4, 6] fun K76 hK76 => vwp_region hT ?_
                simp
                repeat refine ⟨by first | assumption | omega | (intros; omega), ?_⟩
                refine hK76 _ ?_
                try clear hK76 K76
                refine vwp_ret (hR _ _ ?_)
                have hw : runP w r = (none, 10) := by
                  rw [hrp, if_neg (by simp [hcar]), htp2, if_pos (.inl rfl)]
                rw [hw]
                exact retc_only [] [] (p := True) (xs := [.agg [.nils, .int .i64 0, .int .i64 0, .int .i64 0], .int .i64 (10)]) (xs' := [.agg [.nils, .int .i64 0, .int .i64 0, .int .i64 0], .int .i64 (10)]) (by simp) trivial (by simp) (by simp) rfl (by simp) (by simp) rfl (by simp) ⟨rfl, rfl⟩
               · simp -failIfUnchanged at h14; all_goals
                refine vwp_skip ?_
                refine hK70 _ ?_
                try clear hK70 K70
                refine vwp_seq_k fun K77 hK77 => ?_
                simp_all
         · refine vwp_live [2, 4, 6, 9, 10, 11, 16] (vwp_region hT ?_)
           simp [hcar]
           refine hK45 _ ?_
           try clear hK45 K45
           refine vwp_cond (by first | rfl | (simp; rfl)) (fun h15 => ?_) fun h15 => ?_
           · simp -failIfUnchanged at h15; all_goals
            refine vwp_sq [4, 6, 16] fun K78 hK78 => vwp_region hT ?_
            simp
            repeat refine ⟨by first | assumption | omega | (intros; omega), ?_⟩
            refine hK78 _ ?_
            try clear hK78 K78
            refine vwp_ret (hR _ _ ?_)
            have hw : runP w r = (none, carE t L) := by
              rw [hrp, if_pos hcar]
            rw [hw]
            exact retc_only [] [] (p := True) (xs := [.agg [.nils, .int .i64 0, .int .i64 0, .int .i64 0], .int .i64 (carE t L)]) (xs' := [.agg [.nils, .int .i64 0, .int .i64 0, .int .i64 0], .int .i64 (carE t L)]) (by simp) trivial (by simp) (by simp) rfl (by simp) (by simp) rfl (by simp) ⟨rfl, rfl⟩
           · simp -failIfUnchanged at h15; all_goals
            refine vwp_skip ?_
            refine hK44 _ ?_
            try clear hK44 K44
            refine vwp_seq_k fun K79 hK79 => ?_
            simp_all
end Go.Proofs.Ytinigjmfjabicaa
