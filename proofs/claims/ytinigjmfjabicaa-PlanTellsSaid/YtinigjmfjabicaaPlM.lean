/- A trip: the walk. -/
import Derived.Test.YtinigjmfjabicaaPlL
namespace Go.Proofs.Ytinigjmfjabicaa
open Go Go.VX Go.RowKit
set_option linter.unusedVariables false
set_option linter.unusedSimpArgs false
set_option maxHeartbeats 20000000
set_option maxRecDepth 100000

theorem rows_int {T : Type} [Row T] (h : ∀ (a : T), ∀ c ∈ Row.cells a, ∃ n, c = V.int .i64 n) {l : List T} {c : V} (hc : c ∈ rowsV l) : ∃ n, c = V.int .i64 n := by
  obtain ⟨a, _, ha⟩ := List.mem_flatMap.1 hc
  exact h a c ha
theorem odC {l : List Od} {c : V} (hc : c ∈ rowsV l) : ∃ n, c = V.int .i64 n := rows_int (fun a c hc => by simp at hc; rcases hc with rfl | rfl | rfl | rfl | rfl | rfl | rfl | rfl <;> exact ⟨_, rfl⟩) hc
theorem tkC {l : List Tk} {c : V} (hc : c ∈ rowsV l) : ∃ n, c = V.int .i64 n := rows_int (fun a c hc => by simp at hc; rcases hc with rfl | rfl | rfl | rfl | rfl | rfl | rfl <;> exact ⟨_, rfl⟩) hc
theorem vsC {l : List Vs} {c : V} (hc : c ∈ rowsV l) : ∃ n, c = V.int .i64 n := rows_int (fun a c hc => by simp at hc; rcases hc with rfl | rfl | rfl | rfl <;> exact ⟨_, rfl⟩) hc
structure Wd.ok (w : Wd) : Prop where
  A : areaB w.n w.D w.T = true
  o12 : w.os.length ≤ 12
  t6 : w.ts.length ≤ 6
  os : ∀ o ∈ w.os, ordB w.n o = true
  ts : ∀ t ∈ w.ts, trkB t = true
  ond : (w.os.map (·.id)).Nodup
  tnd : (w.ts.map (·.id)).Nodup
theorem Wd.e_zero {w : Wd} : w.e = 0 ↔ w.ok := by
  unfold Wd.e loadE
  constructor
  · intro h
    split at h
    · rename_i hA
      split at h
      · cases h
      split at h
      · rename_i h1 h2
        split at h
        · rename_i h3
          exact ⟨hA, by omega, by omega, List.all_eq_true.1 h2.1, List.all_eq_true.1 h2.2, h3.1, h3.2⟩
        · cases h
      · cases h
    · cases h
  · intro h
    rw [if_pos h.A, if_neg (by have := h.o12; have := h.t6; omega), if_pos ⟨List.all_eq_true.2 h.os, List.all_eq_true.2 h.ts⟩, if_pos ⟨h.ond, h.tnd⟩]
structure Tr where (vs : List Vs) (ba ds co : Int)
def lateB (n : Int) (D T : List Int) : Rn → List Od → Bool
  | _, [] => false
  | s, o :: r => !decide (s.beg n T o ≤ o.to) || lateB n D T (s.step n D T o) r
def goR (n : Int) (D T : List Int) : Rn → List Od → Rn
  | s, [] => s
  | s, o :: r => goR n D T (s.step n D T o) r
def Wd.s0 (t : Tk) : Rn := ⟨0, t.st, 0, []⟩
def tripP (w : Wd) (t : Tk) (l : List Od) : Option Tr × Int :=
  if lateB w.n w.D w.T (Wd.s0 t) l = true ∨ t.en < (goR w.n w.D w.T (Wd.s0 t) l).tm + lg w.n w.T (goR w.n w.D w.T (Wd.s0 t) l).nd 0 then (none, 10)
  else (some ⟨(goR w.n w.D w.T (Wd.s0 t) l).vs, (goR w.n w.D w.T (Wd.s0 t) l).tm + lg w.n w.T (goR w.n w.D w.T (Wd.s0 t) l).nd 0, (goR w.n w.D w.T (Wd.s0 t) l).ds + lg w.n w.D (goR w.n w.D w.T (Wd.s0 t) l).nd 0, t.fx + t.ra * ((goR w.n w.D w.T (Wd.s0 t) l).ds + lg w.n w.D (goR w.n w.D w.T (Wd.s0 t) l).nd 0)⟩, 0)
def runL (w : Wd) (t : Tk) : Option (List Od) × Int → Option Tr × Int
  | (none, e) => (none, e)
  | (some l, _) => if carE t l ≠ 0 then (none, carE t l) else tripP w t l
def runT (w : Wd) (r : Rt) : Option Nat → Option Tr × Int
  | none => (none, 5)
  | some k => match w.ts[k]? with
    | none => (none, 5)
    | some t => runL w t (ordsP w.os r.st)
def runP (w : Wd) (r : Rt) : Option Tr × Int :=
  if w.e ≠ 0 then (none, w.e) else if r.st.length = 0 ∨ 12 < r.st.length then (none, 2) else runT w r (fndT w.ts r.tr)
def resT (x : Option Tr × Int) (r : V) (ob : List Ob) : Prop := match x with
  | (none, e) => r = .tup [.agg [.nils, .int .i64 0, .int .i64 0, .int .i64 0], .int .i64 e] ∧ ob = []
  | (some t, e) => r = .tup [.agg [.sl 0 (t.vs.length * 4) 4 0 t.vs.length, .int .i64 t.ba, .int .i64 t.ds, .int .i64 t.co], .int .i64 e] ∧ ob = [.live (rowsV t.vs)]
theorem pick_small {w : Wd} (h : w.ok) {st : List Int} {L : List Od} (hp : pick w.os st = some L) (hs : st.length ≤ 12) : small L ∧ L.length = st.length ∧ ∀ o ∈ L, ordB w.n o = true := by
  obtain ⟨h1, h2⟩ := pick_len _ hp
  refine ⟨⟨by omega, fun o ho => ?_⟩, h1, fun o ho => h.os o (h2 o ho)⟩
  have := ordB_iff.1 (h.os o (h2 o ho))
  omega
theorem dropAt {α : Type} {l : List α} {i : Nat} {x : α} (h : l[i]? = some x) : l.drop i = x :: l.drop (i + 1) := by
  obtain ⟨h1, h2⟩ := List.getElem?_eq_some_iff.1 h
  rw [List.drop_eq_getElem_cons h1, h2]
theorem run_spec (w : Wd) (ho : w.os.length < 1099511627776) (ht : w.ts.length < 1099511627776) (r : Rt) (hr : r.st.length < 1099511627776) : VC P 33 [.agg w.c, .agg (Rt.cells r)] [] (fun r' ob' => resT (runP w r) r' ob') := by
  refine VC_of_vwp_c hT ent_33 Try.func33 rfl (by simp) fun R hR => ?_
  refine vwp_sq [0, 1] fun K1 hK1 => vwp_region hT ?_
  simp
  refine hK1 _ ?_
  try clear hK1 K1
  refine vwp_seq_k fun K2 hK2 => ?_
  refine vwp_sq [2, 3, 4] fun K3 hK3 => vwp_region hT ?_
  simp
  refine vcall_z [] (rworld_spec w ho ht) (by rintro r ob' ⟨rfl, rfl⟩; simp) ?_
  rintro r ob' ⟨rfl, rfl⟩
  simp
  refine hK3 _ ?_
  try clear hK3 K3
  refine vwp_sq [2, 3, 4, 6] fun K4 hK4 => vwp_region hT ?_
  simp
  refine hK4 _ ?_
  try clear hK4 K4
  refine vwp_cond (by first | rfl | (simp; rfl)) (fun h1 => ?_) fun h1 => ?_
  · simp -failIfUnchanged at h1; all_goals
   have he := h1
   refine vwp_sq [4, 6] fun K5 hK5 => vwp_region hT ?_
   simp
   repeat refine ⟨by first | assumption | omega | (intros; omega), ?_⟩
   refine hK5 _ ?_
   try clear hK5 K5
   refine vwp_ret (hR _ _ ?_)
   have hw : runP w r = (none, w.e) := by
     unfold runP; rw [if_pos he]
   rw [hw]
   exact retc_only [] [] (p := True) (xs := [.agg [.nils, .int .i64 0, .int .i64 0, .int .i64 0], .int .i64 (w.e)]) (xs' := [.agg [.nils, .int .i64 0, .int .i64 0, .int .i64 0], .int .i64 (w.e)]) (by simp) trivial (by simp) (by simp) rfl (by simp) (by simp) rfl (by simp) ⟨rfl, rfl⟩
  · simp -failIfUnchanged at h1; all_goals
   have he : w.e = 0 := by simpa using h1
   have hok := Wd.e_zero.1 he
   have hA := hok.A
   refine vwp_skip ?_
   refine hK2 _ ?_
   try clear hK2 K2
   refine vwp_seq_k fun K6 hK6 => ?_
   refine vwp_sq [2, 3, 4] fun K7 hK7 => vwp_region hT ?_
   simp
   refine hK7 _ ?_
   try clear hK7 K7
   refine vwp_cond (by first | rfl | (simp; rfl)) (fun h2 => ?_) fun h2 => ?_
   · simp -failIfUnchanged at h2; all_goals
    have q := h2
    refine vwp_sq [4] fun K8 hK8 => vwp_region hT ?_
    simp
    repeat refine ⟨by first | assumption | omega | (intros; omega), ?_⟩
    refine hK8 _ ?_
    try clear hK8 K8
    refine vwp_ret (hR _ _ ?_)
    have hw : runP w r = (none, 2) := by
      unfold runP; rw [if_neg (by simp [he]), if_pos (by rcases q with q | q; exact .inl (by rw [q]; rfl); exact .inr (by omega))]
    rw [hw]
    exact retc_only [] [] (p := True) (xs := [.agg [.nils, .int .i64 0, .int .i64 0, .int .i64 0], .int .i64 (2)]) (xs' := [.agg [.nils, .int .i64 0, .int .i64 0, .int .i64 0], .int .i64 (2)]) (by simp) trivial (by simp) (by simp) rfl (by simp) (by simp) rfl (by simp) ⟨rfl, rfl⟩
   · simp -failIfUnchanged at h2; all_goals
    have q := h2
    have hs12 : ¬ (r.st.length = 0 ∨ 12 < r.st.length) := by rintro (k | k); exact q.1 (List.length_eq_zero_iff.1 k); omega
    have hne : r.st ≠ [] := by intro e; rw [e] at hs12; simp at hs12
    refine vwp_skip ?_
    refine hK6 _ ?_
    try clear hK6 K6
    refine vwp_sq [2, 3, 4] fun K9 hK9 => vwp_region hT ?_
    simp
    refine vcall_z [] (rtruck_spec w ht r.tr) (by rintro r ob' ⟨rfl, rfl⟩; simp) ?_
    rintro r ob' ⟨rfl, rfl⟩
    simp
    refine hK9 _ ?_
    try clear hK9 K9
    refine vwp_seq_k fun K10 hK10 => ?_
    refine vwp_seq_k fun K11 hK11 => ?_
    rcases hk : fndT w.ts r.tr with _ | p
    · refine vwp_live [2, 3, 4, 7] (vwp_region hT ?_)
      simp [hk, oI]
      refine hK11 _ ?_
      try clear hK11 K11
      refine vwp_cond (by first | rfl | (simp; rfl)) (fun h3 => ?_) fun h3 => ?_
      · simp -failIfUnchanged at h3; all_goals
       refine vwp_sq [4] fun K12 hK12 => vwp_region hT ?_
       simp
       repeat refine ⟨by first | assumption | omega | (intros; omega), ?_⟩
       refine hK12 _ ?_
       try clear hK12 K12
       refine vwp_ret (hR _ _ ?_)
       have hw : runP w r = (none, 5) := by
         unfold runP; rw [if_neg (by simp [he]), if_neg (by omega), hk]; rfl
       rw [hw]
       exact retc_only [] [] (p := True) (xs := [.agg [.nils, .int .i64 0, .int .i64 0, .int .i64 0], .int .i64 (5)]) (xs' := [.agg [.nils, .int .i64 0, .int .i64 0, .int .i64 0], .int .i64 (5)]) (by simp) trivial (by simp) (by simp) rfl (by simp) (by simp) rfl (by simp) ⟨rfl, rfl⟩
      · simp -failIfUnchanged at h3; all_goals
       refine vwp_skip ?_
       refine hK10 _ ?_
       try clear hK10 K10
       refine vwp_seq_k fun K13 hK13 => ?_
       simp_all
    · obtain ⟨t, htp, _⟩ := fndT_some hk
      have hpl := (List.getElem?_eq_some_iff.1 htp).1
      have hpn : ¬ ((p : Int) < 0) := by omega
      have hrow := rowTk htp
      have hlen := lenTk w.ts
      have htk := hok.ts t (List.mem_of_getElem? htp)
      refine vwp_live [2, 3, 4, 7] (vwp_region hT ?_)
      simp [hk, oI, hpn]
      refine hK11 _ ?_
      try clear hK11 K11
      refine vwp_cond (by first | rfl | (simp; rfl)) (fun h4 => ?_) fun h4 => ?_
      · simp -failIfUnchanged at h4; all_goals
       refine vwp_seq_k fun K14 hK14 => ?_
       simp_all
      · simp -failIfUnchanged at h4; all_goals
       refine vwp_skip ?_
       refine hK10 _ ?_
       try clear hK10 K10
       refine vwp_seq_k fun K15 hK15 => ?_
       rcases hq : ordsP w.os r.st with ⟨_ | l, e⟩
       · have he2 : e ≠ 0 := by
           unfold ordsP at hq
           split at hq
           · cases hq; decide
           · split at hq
             · cases hq
             · cases hq; decide
         refine vwp_live [2, 3, 4, 7] (vwp_region hT ?_)
         simp
         refine vcall_z [] (orders_spec w ho r.st hr hne) (by rw [hq]; rintro r ob' ⟨rfl, rfl⟩; simp) ?_
         rw [hq]
         rintro r' ob' ⟨rfl, rfl⟩
         simp
         refine hK15 _ ?_
         try clear hK15 K15
         refine vwp_seq_k fun K16 hK16 => ?_
         refine vwp_sq [2, 4, 7, 8, 9] fun K17 hK17 => vwp_region hT ?_
         simp [he2]
         refine hK17 _ ?_
         try clear hK17 K17
         refine vwp_cond (by first | rfl | (simp; rfl)) (fun h5 => ?_) fun h5 => ?_
         · simp -failIfUnchanged at h5; all_goals
          refine vwp_sq [4, 9] fun K18 hK18 => vwp_region hT ?_
          simp
          repeat refine ⟨by first | assumption | omega | (intros; omega), ?_⟩
          refine hK18 _ ?_
          try clear hK18 K18
          refine vwp_ret (hR _ _ ?_)
          have hw : runP w r = (none, e) := by
            unfold runP; rw [if_neg (by simp [he]), if_neg (by omega), hk]; show runT w r (some p) = _; simp only [runT, htp]; rw [hq]; rfl
          rw [hw]
          exact retc_only [] [] (p := True) (xs := [.agg [.nils, .int .i64 0, .int .i64 0, .int .i64 0], .int .i64 (e)]) (xs' := [.agg [.nils, .int .i64 0, .int .i64 0, .int .i64 0], .int .i64 (e)]) (by simp) trivial (by simp) (by simp) rfl (by simp) (by simp) rfl (by simp) ⟨rfl, rfl⟩
         · simp -failIfUnchanged at h5; all_goals
          refine vwp_skip ?_
          refine hK16 _ ?_
          try clear hK16 K16
          refine vwp_seq_k fun K19 hK19 => ?_
          simp_all
       · obtain ⟨hpk, he2⟩ : pick w.os r.st = some l ∧ e = 0 := by
           unfold ordsP at hq
           split at hq
           · cases hq
           · rename_i L hL
             split at hq
             · cases hq; exact ⟨hL, rfl⟩
             · cases hq
         subst he2
         obtain ⟨hsm, hll, hlo⟩ := pick_small hok hpk (by omega)
         have hrp : runP w r = (if carE t l ≠ 0 then (none, carE t l) else tripP w t l) := by unfold runP; rw [if_neg (by simp [he]), if_neg (by omega), hk]; show runT w r (some p) = _; simp only [runT, htp]; rw [hq]; rfl
         refine vwp_live [2, 3, 4, 7] (vwp_region hT ?_)
         simp
         refine vcall_z [] (orders_spec w ho r.st hr hne) (by rw [hq]; rintro r ob' ⟨rfl, rfl⟩; simp; intro c hc; obtain ⟨n, rfl⟩ := odC hc; rfl) ?_
         rw [hq]
         rintro r' ob' ⟨rfl, rfl⟩
         simp
         refine hK15 _ ?_
         try clear hK15 K15
         refine vwp_seq_k fun K20 hK20 => ?_
         refine vwp_sq [2, 4, 7, 8, 9] fun K21 hK21 => vwp_region hT ?_
         simp
         refine hK21 _ ?_
         try clear hK21 K21
         refine vwp_cond (by first | rfl | (simp; rfl)) (fun h6 => ?_) fun h6 => ?_
         · simp -failIfUnchanged at h6; all_goals
          refine vwp_seq_k fun K22 hK22 => ?_
          simp_all
         · simp -failIfUnchanged at h6; all_goals
          refine vwp_skip ?_
          refine hK20 _ ?_
          try clear hK20 K20
          refine vwp_sq [2, 4, 7, 8] fun K23 hK23 => vwp_region hT ?_
          simp [hrow, hlen, oI, hk]
          repeat refine ⟨by first | assumption | omega | (intros; omega), ?_⟩
          refine hK23 _ ?_
          try clear hK23 K23
          refine vwp_seq_k fun K24 hK24 => ?_
          have hrl := lenOd l
          have htl : List.take (l.length * 8) (rowsV l) = rowsV l := List.take_of_length_le (by omega)
          refine vwp_sq [2, 4, 8, 10] fun K25 hK25 => vwp_region hT ?_
          simp [htl]
          refine vcall_z [] (carries_spec t l hsm) (by rintro r ob' ⟨rfl, rfl⟩; simp) ?_ (ha := by simp [htl]) (hok := by simp [hrl]; intro c hc; obtain ⟨n, rfl⟩ := odC hc; rfl)
          rintro r ob' ⟨rfl, rfl⟩
          simp [htl]
          refine hK25 _ ?_
          try clear hK25 K25
          refine vwp_seq_k fun K26 hK26 => ?_
          by_cases hcar : carE t l = 0
          · refine vwp_live [2, 4, 8, 10, 11] (vwp_region hT ?_)
            simp [hcar]
            refine hK26 _ ?_
            try clear hK26 K26
            refine vwp_cond (by first | rfl | (simp; rfl)) (fun h7 => ?_) fun h7 => ?_
            · simp -failIfUnchanged at h7; all_goals
             refine vwp_seq_k fun K27 hK27 => ?_
             simp_all
            · simp -failIfUnchanged at h7; all_goals
             refine vwp_skip ?_
             refine hK24 _ ?_
             try clear hK24 K24
             refine vwp_sq [2, 4, 8, 10] fun K28 hK28 => vwp_region hT ?_
             simp
             repeat refine ⟨by first | assumption | omega | (intros; omega), ?_⟩
             refine hK28 _ ?_
             try clear hK28 K28
             refine vwp_seq_k fun K29 hK29 => ?_
             refine vwp_sq [2, 4, 8, 10, 12] fun K30 hK30 => vwp_region hT ?_
             simp [hrl]
             refine hK30 _ ?_
             try clear hK30 K30
             refine vwp_block ?_
             refine vwp_gh (Gh.virtC 5 3 4 rfl rfl) ?_
             simp
             refine vwp_loop_s (fun u : Nat × Rn => ⟨[(2, .ptr 0 5 0), (4, .ptr 2 4 0), (10, .ptr 4 7 0), (12, .ptr 5 4 0), (66, .sl 3 (l.length * 8) 8 0 l.length), (67, .int .i64 l.length), (68, .int .i64 (u.1 : Int))], [.live w.c, .live (Rt.cells r), .live [.nils, .int .i64 0, .int .i64 0, .int .i64 0], .live (rowsV l), .live (Tk.cells t), .live [.int .i64 u.2.nd, .int .i64 u.2.tm, .int .i64 u.2.ds, .sl 6 (u.2.vs.length * 4) 4 0 u.2.vs.length], .live (rowsV u.2.vs)]⟩) (fun u => u.1 ≤ l.length ∧ u.2.fine w.n u.1 ∧ lateB w.n w.D w.T (Wd.s0 t) l = lateB w.n w.D w.T u.2 (l.drop u.1) ∧ goR w.n w.D w.T (Wd.s0 t) l = goR w.n w.D w.T u.2 (l.drop u.1)) (fun u => l.length - u.1) ((0, Wd.s0 t)) (Gh.to_k [2, 4, 10, 12, 66, 67, 68] [0, 1, 2, 3, 4, 5, 6] (he := by simp) (hh := by simp [Wd.s0])) (⟨by simp, ⟨by simp [Wd.s0]; exact (areaB_n hA).1, by simp [Wd.s0]; have := trkB_iff.1 htk; omega, by simp [Wd.s0], by simp [Wd.s0]⟩, by simp, by simp⟩) ?_
             rintro ⟨i, s2⟩ ⟨hi, hfi, hla, hgo⟩
             dsimp only at hi hfi hla hgo ⊢
             intro K31 hK31
             refine vwp_sq [2, 4, 10, 12, 66, 67, 68] fun K32 hK32 => vwp_region hT ?_
             simp
             refine hK32 _ ?_
             try clear hK32 K32
             refine vwp_seq_k fun K33 hK33 => ?_
             refine vwp_cond (by first | rfl | (simp; rfl)) (fun h8 => ?_) fun h8 => ?_
             · simp -failIfUnchanged at h8; all_goals
              refine vwp_skip ?_
              refine hK33 _ ?_
              try clear hK33 K33
              refine vwp_seq_k fun K34 hK34 => ?_
              refine vwp_block ?_
              obtain ⟨o, ho2⟩ := getI (l := l) (i := i) (by omega)
              have hrow2 := rowOd ho2
              have hdr := dropAt ho2
              have hob := hlo o (List.mem_of_getElem? ho2)
              have hst1 := (hfi.step hA hob).1
              refine vwp_sq [2, 4, 10, 12, 66, 67, 68] fun K35 hK35 => vwp_region hT ?_
              simp [hrow2, hrl]
              repeat refine ⟨by first | assumption | omega | (intros; omega), ?_⟩
              refine hK35 _ ?_
              try clear hK35 K35
              refine vwp_sq [2, 4, 10, 12, 14, 66, 67, 68] fun K36 hK36 => vwp_region hT ?_
              simp
              refine vcall_z [5, 6] (visit_spec hA s2 i hfi (by omega) o hob) (by rintro r ob' ⟨rfl, rfl⟩; simp; intro c hc; obtain ⟨n, rfl⟩ := vsC hc; rfl) ?_
              rintro r ob' ⟨rfl, rfl⟩
              simp
              refine hK36 _ ?_
              try clear hK36 K36
              refine vwp_cond (by first | rfl | (simp; rfl)) (fun h9 => ?_) fun h9 => ?_
              · simp -failIfUnchanged at h9; all_goals
               have q := h9
               have hnl : ¬ s2.beg w.n w.T o ≤ o.to := by simpa using q
               refine vwp_sq [4] fun K37 hK37 => vwp_region hT ?_
               simp
               repeat refine ⟨by first | assumption | omega | (intros; omega), ?_⟩
               refine hK37 _ ?_
               try clear hK37 K37
               refine vwp_ret (hR _ _ ?_)
               have hw : runP w r = (none, 10) := by
                 have hlt : lateB w.n w.D w.T (Wd.s0 t) l = true := by rw [hla, hdr, lateB, decide_eq_false hnl]; rfl
                 rw [hrp, if_neg (by simp [hcar]), tripP, if_pos (.inl hlt)]
               rw [hw]
               exact retc_only [] [] (p := True) (xs := [.agg [.nils, .int .i64 0, .int .i64 0, .int .i64 0], .int .i64 (10)]) (xs' := [.agg [.nils, .int .i64 0, .int .i64 0, .int .i64 0], .int .i64 (10)]) (by simp) trivial (by simp) (by simp) rfl (by simp) (by simp) rfl (by simp) ⟨rfl, rfl⟩
              · simp -failIfUnchanged at h9; all_goals
               have q := h9
               have hnl : s2.beg w.n w.T o ≤ o.to := by simpa using q
               refine vwp_skip ?_
               refine hK34 _ ?_
               try clear hK34 K34
               have w1 : IntKind.i64.wrap ((i : Int) + 1) = i + 1 := w64 (by omega) (by omega)
               refine vwp_live [2, 4, 10, 12, 66, 67, 68] (vwp_region hT ?_)
               simp [w1]
               exact hK31 ((i + 1, s2.step w.n w.D w.T o)) _ (Gh.to_k [2, 4, 10, 12, 66, 67, 68] [0, 1, 2, 3, 4, 5, 6]) (⟨by dsimp only; omega, hst1, by dsimp only; rw [hla, hdr, lateB, decide_eq_true hnl]; simp, by dsimp only; rw [hgo, hdr, goR]⟩) (by dsimp only; omega)
             · simp -failIfUnchanged at h8; all_goals
              refine vwp_exit ?_
              simp only [inBlk, thenQ, if_true]
              refine hK29 _ ?_
              try clear hK29 K29
              obtain rfl : i = l.length := by omega
              rw [List.drop_length] at hla hgo
              rw [lateB] at hla
              rw [goR] at hgo
              have hnd0 : (0 : Int) ≤ 0 ∧ (0 : Int) < w.n := ⟨by omega, by have := areaB_n hA; omega⟩
              have htm := hfi.tm
              have hds := hfi.ds
              have hvl := hfi.vs
              obtain ⟨_, _, _, _, _, _, _, _, _, _, _, _, _, _, bD, bT⟩ := lg_get hA hfi.nd hnd0
              obtain ⟨_, _, _, _, _, b1, b2, b3⟩ := trkB_iff.1 htk
              refine vwp_sq [2, 4, 10, 12] fun K38 hK38 => vwp_region hT ?_
              simp
              refine vcall_z [5, 6] (walk_spec hA s2.nd s2.tm s2.ds 0 s2.vs hfi.nd hnd0 (by omega) (by omega)) (by rintro r ob' ⟨rfl, rfl⟩; simp; intro c hc; obtain ⟨n, rfl⟩ := vsC hc; rfl) ?_
              rintro r ob' ⟨rfl, rfl⟩
              simp
              refine hK38 _ ?_
              try clear hK38 K38
              refine vwp_seq_k fun K39 hK39 => ?_
              refine vwp_sq [4, 10, 12] fun K40 hK40 => vwp_region hT ?_
              simp
              refine hK40 _ ?_
              try clear hK40 K40
              refine vwp_cond (by first | rfl | (simp; rfl)) (fun h10 => ?_) fun h10 => ?_
              · simp -failIfUnchanged at h10; all_goals
               have q := h10
               refine vwp_sq [4] fun K41 hK41 => vwp_region hT ?_
               simp
               repeat refine ⟨by first | assumption | omega | (intros; omega), ?_⟩
               refine hK41 _ ?_
               try clear hK41 K41
               refine vwp_ret (hR _ _ ?_)
               have hw : runP w r = (none, 10) := by
                 rw [hrp, if_neg (by simp [hcar]), tripP, if_pos (.inr (by rw [hgo]; exact q))]
               rw [hw]
               exact retc_only [] [] (p := True) (xs := [.agg [.nils, .int .i64 0, .int .i64 0, .int .i64 0], .int .i64 (10)]) (xs' := [.agg [.nils, .int .i64 0, .int .i64 0, .int .i64 0], .int .i64 (10)]) (by simp) trivial (by simp) (by simp) rfl (by simp) (by simp) rfl (by simp) ⟨rfl, rfl⟩
              · simp -failIfUnchanged at h10; all_goals
               have q := h10
               refine vwp_skip ?_
               refine hK39 _ ?_
               try clear hK39 K39
               obtain ⟨di, hdi⟩ : ∃ di, di = s2.ds + lg w.n w.D s2.nd 0 := ⟨_, rfl⟩
               have hdb : 0 ≤ di ∧ di ≤ 1000000000 := by omega
               have hmu := mul_small (a := t.ra) (b := di) (by omega) (by omega) hdb.1 hdb.2
               have w2 : IntKind.i64.wrap (t.ra * di) = t.ra * di := w64 (by omega) (by omega)
               have w3 : IntKind.i64.wrap (t.fx + t.ra * di) = t.fx + t.ra * di := w64 (by omega) (by omega)
               rw [← hdi]
               refine vwp_sq [4, 10, 12] fun K42 hK42 => vwp_region hT ?_
               simp [w2, w3]
               repeat refine ⟨by first | assumption | omega | (intros; omega), ?_⟩
               refine hK42 _ ?_
               try clear hK42 K42
               refine vwp_ret (hR _ _ ?_)
               have hw : runP w r = (some ⟨s2.vs, s2.tm + lg w.n w.T s2.nd 0, di, t.fx + t.ra * di⟩, 0) := by
                 rw [hrp, if_neg (by simp [hcar]), tripP, if_neg, hgo, ← hdi]
                 rw [hla, hgo]
                 simp
                 omega
               rw [hw]
               exact retc_only [6] [.live (rowsV s2.vs)] (p := True) (xs := [.agg [.sl 6 (s2.vs.length * 4) 4 0 s2.vs.length, .int .i64 (s2.tm + lg w.n w.T s2.nd 0), .int .i64 di, .int .i64 (t.fx + t.ra * di)], .int .i64 0]) (xs' := [.agg [.sl 0 (s2.vs.length * 4) 4 0 s2.vs.length, .int .i64 (s2.tm + lg w.n w.T s2.nd 0), .int .i64 di, .int .i64 (t.fx + t.ra * di)], .int .i64 0]) (by simp) trivial (by simp) (by simp) rfl (by simp) (by simp) rfl (by simp) ⟨rfl, rfl⟩
          · refine vwp_live [2, 4, 8, 10, 11] (vwp_region hT ?_)
            simp [hcar]
            refine hK26 _ ?_
            try clear hK26 K26
            refine vwp_cond (by first | rfl | (simp; rfl)) (fun h11 => ?_) fun h11 => ?_
            · simp -failIfUnchanged at h11; all_goals
             refine vwp_sq [4, 11] fun K43 hK43 => vwp_region hT ?_
             simp
             repeat refine ⟨by first | assumption | omega | (intros; omega), ?_⟩
             refine hK43 _ ?_
             try clear hK43 K43
             refine vwp_ret (hR _ _ ?_)
             have hw : runP w r = (none, carE t l) := by
               rw [hrp, if_pos hcar]
             rw [hw]
             exact retc_only [] [] (p := True) (xs := [.agg [.nils, .int .i64 0, .int .i64 0, .int .i64 0], .int .i64 (carE t l)]) (xs' := [.agg [.nils, .int .i64 0, .int .i64 0, .int .i64 0], .int .i64 (carE t l)]) (by simp) trivial (by simp) (by simp) rfl (by simp) (by simp) rfl (by simp) ⟨rfl, rfl⟩
            · simp -failIfUnchanged at h11; all_goals
             refine vwp_skip ?_
             refine hK24 _ ?_
             try clear hK24 K24
             refine vwp_seq_k fun K44 hK44 => ?_
             simp_all
end Go.Proofs.Ytinigjmfjabicaa
