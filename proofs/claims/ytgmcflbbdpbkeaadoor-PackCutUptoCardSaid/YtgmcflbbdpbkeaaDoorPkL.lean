/- pack.Read. -/
import Derived.Test.YtgmcflbbdpbkeaaDoorPkK
import Derived.Test.YtgmcflbbdpbkeaaDoorVXc
namespace Go.Proofs.YtgmcflbbdpbkeaaDoor
open Go Go.VX Go.RowKit
set_option linter.unusedVariables false
set_option linter.unusedSimpArgs false
set_option maxHeartbeats 20000000
set_option maxRecDepth 100000
theorem bclone_spec (l : List Int) (hl : l ≠ []) (hln : l.length < 1099511627776) : VC P 25 [sB l] [] (fun r ob' => r = .sl 0 l.length 1 0 l.length ∧ ob' = [.live (bts l)]) := by
  refine VC_of_vwp_k ent_25 Tryd.func25 rfl (by simp) fun R hR => ?_
  refine vwp_sq [0] fun K1 hK1 => vwp_region hT ?_
  simp
  refine hK1 _ ?_
  try clear hK1 K1
  refine vwp_seq_k fun K2 hK2 => ?_
  have hl0 : l.length ≠ 0 := fun e => hl (List.length_eq_zero_iff.1 e)
  refine vwp_sq [0] fun K3 hK3 => vwp_region hT ?_
  simp [hl0]
  refine hK3 _ ?_
  try clear hK3 K3
  refine vwp_cond (by first | rfl | (simp; rfl)) (fun h1 => ?_) fun h1 => ?_
  · simp -failIfUnchanged at h1; all_goals
   refine vwp_seq_k fun K4 hK4 => ?_
   simp at *
  · simp -failIfUnchanged at h1; all_goals
   refine vwp_skip ?_
   refine hK2 _ ?_
   try clear hK2 K2
   refine vwp_sq [0] fun K5 hK5 => vwp_region hT ?_
   simp
   repeat refine ⟨by first | assumption | omega | (intros; omega), ?_⟩
   refine hK5 _ ?_
   try clear hK5 K5
   refine vwp_ret (hR _ _ ?_)
   exact ret_k [2] [0] ([.live (bts l)]) (.sl 0 l.length 1 0 l.length) (⟨rfl, rfl⟩)
theorem bclone_e0  : VC P 25 [.fs 0 []] [] (fun r ob' => (r = .nils ∧ ob' = []) ∨ (r = .sl 0 0 1 0 0 ∧ ob' = [.live []])) := by
  refine VC_of_vwp_k ent_25 Tryd.func25 rfl (by simp) fun R hR => ?_
  refine vwp_sq [0] fun K1 hK1 => vwp_region hT ?_
  simp
  refine hK1 _ ?_
  try clear hK1 K1
  refine vwp_seq_k fun K2 hK2 => ?_
  refine vwp_sq [0] fun K3 hK3 => vwp_eqnil hT T_25 (by rfl) (by decide) (by decide) (fun b => ?_)
  simp
  refine hK3 _ ?_
  try clear hK3 K3
  refine vwp_cond (by first | rfl | (simp; rfl)) (fun h1 => ?_) fun h1 => ?_
  · simp -failIfUnchanged at h1; all_goals
   refine vwp_sq [] fun K4 hK4 => vwp_region hT ?_
   simp
   refine hK4 _ ?_
   try clear hK4 K4
   refine vwp_ret (hR _ _ ?_)
   exact ret_k [2] [] ([]) (.nils) (.inl ⟨rfl, rfl⟩)
  · simp -failIfUnchanged at h1; all_goals
   refine vwp_skip ?_
   refine hK2 _ ?_
   try clear hK2 K2
   refine vwp_sq [0] fun K5 hK5 => vwp_region hT ?_
   simp
   repeat refine ⟨by first | assumption | omega | (intros; omega), ?_⟩
   refine hK5 _ ?_
   try clear hK5 K5
   refine vwp_ret (hR _ _ ?_)
   exact ret_k [2] [0] ([.live []]) (.sl 0 0 1 0 0) (.inr ⟨rfl, rfl⟩)

theorem bclone_u (l : List Int) (hln : l.length < 1099511627776) : VC P 25 [sB l] [] (fun r ob' => r = .sl 0 l.length 1 0 l.length ∧ ob' = [.live (bts l)]) := by
  by_cases h : l = []
  · subst h
    refine bclone_e0.virt fun r ob' q => ?_
    rcases q with ⟨rfl, rfl⟩ | ⟨rfl, rfl⟩
    · exact .inr (.inl ⟨rfl, rfl, rfl⟩)
    · exact .inl ⟨rfl, rfl⟩
  · exact bclone_spec l h hln
theorem all_ok (s : ByteArray) (hs0 : 0 < s.size) (hs1 : s.size ≤ 1000) (again : Bool) (B : List Int) (hb : byteL B) (hBl : B.length < 1099511627776) {l : List PV} (h : allR (sL s) again B = .ok l) :
    VC P 26 [.ptr 0 1 0, .str s, .bool again] [rdr B] (fun r ob' => r = .tup [.sl 3 (2 * l.length) 2 0 l.length, .int .i64 0] ∧ ∃ o1 o2 C, ob' = [rdr C, o1, o2, .live (vcs l)]) :=
  (all_spec s hs0 hs1 again B hb hBl).mono fun r ob' ⟨o1, o2, o3, C, e, q⟩ => by
    rw [h] at q
    obtain ⟨rfl, rfl⟩ := q
    exact ⟨by rw [vcs_len], o1, o2, C, e⟩
theorem all_err (s : ByteArray) (hs0 : 0 < s.size) (hs1 : s.size ≤ 1000) (again : Bool) (B : List Int) (hb : byteL B) (hBl : B.length < 1099511627776) {e : Int} (h : allR (sL s) again B = .error e) :
    VC P 26 [.ptr 0 1 0, .str s, .bool again] [rdr B] (fun r ob' => r = .tup [.nils, .int .i64 e] ∧ ∃ o1 o2 o3 C, ob' = [rdr C, o1, o2, o3]) :=
  (all_spec s hs0 hs1 again B hb hBl).mono fun r ob' ⟨o1, o2, o3, C, e, q⟩ => by
    rw [h] at q
    exact ⟨q, o1, o2, o3, C, e⟩
theorem takeN_e {B : List Int} {e : Int} (h : takeN B = .error e) : e = 2 ∨ e = 3 := by
  have key : ∀ (f k u : Nat) (B : List Int) {e : Int}, takeK f k u B = .error e → e = 2 ∨ e = 3 := by
    intro f
    induction f with
    | zero => intro k u B e h; simp [takeK] at h; exact .inl h.symm
    | succ f ih =>
      intro k u B e h
      cases B with
      | nil => simp [takeK] at h; exact .inr h.symm
      | cons c B =>
        rw [takeK] at h
        split at h
        · cases h; exact .inl rfl
        · split at h
          · cases h
          · exact ih _ _ _ h
  unfold takeN at h
  split at h
  · rename_i h'
    cases h
    exact key _ _ _ _ h'
  · split at h
    · cases h
    · cases h; exact .inl rfl
theorem takeT_e {B : List Int} {e : Int} (h : takeT B = .error e) : e = 2 ∨ e = 3 := by
  unfold takeT at h
  split at h
  · rename_i h'
    cases h
    exact takeN_e h'
  split at h
  · cases h; exact .inl rfl
  split at h
  · cases h; exact .inr rfl
  · cases h
theorem allK_e {S : List Int} {again : Bool} : ∀ {f : Nat} {l : List PV} {B : List Int} {e : Int}, byteL B → B.length < f → allK S again f l B = .error e → e = 2 ∨ e = 3
  | 0, _, _, _, _, hf, _ => by omega
  | f + 1, l, B, e, hb, hf, h => by
    rw [allK] at h
    split at h
    · split at h
      · rename_i e' hv
        cases h
        unfold takeV at hv
        split at hv
        · split at hv
          · rename_i h'; cases hv; exact takeN_e h'
          · cases hv
        · split at hv
          · rename_i h'; cases hv; exact takeT_e h'
          · cases hv
      · rename_i x C hv
        unfold takeV at hv
        split at hv
        · split at hv
          · cases hv
          · rename_i h'
            simp only [Except.ok.injEq, Prod.mk.injEq] at hv
            obtain ⟨_, rfl⟩ := hv
            exact allK_e (takeN_byte h' hb).1 (by have := takeN_lt h' hb; omega) h
        · split at hv
          · cases hv
          · rename_i h'
            simp only [Except.ok.injEq, Prod.mk.injEq] at hv
            obtain ⟨_, rfl⟩ := hv
            exact allK_e (takeT_byte h' hb).1 (by have := (takeT_byte h' hb).2.1; omega) h
    · cases h
theorem allR_e {S : List Int} {again : Bool} {B : List Int} {e : Int} (hb : byteL B) (h : allR S again B = .error e) : e = 2 ∨ e = 3 := by
  unfold allR at h
  split at h
  · rename_i h'
    cases h
    exact allK_e hb (by omega) h'
  · split at h
    · cases h
    · cases h; exact .inl rfl
/-- What Read answers. -/
def readP (f : ByteArray) (B : List Int) : List PV × Int :=
  if formF f = false then ([], 1) else if 20000 < B.length then ([], 4) else match allR (sL (formS f)) (formA f) B with
    | .ok l => if 200 < l.length then ([], 4) else (l, 0)
    | .error e => ([], e)
theorem formF_pos {f : ByteArray} (h : formF f = true) : 0 < (formS f).size ∧ (formS f).size ≤ 20 := by
  unfold formF at h
  simp only [Bool.and_eq_true, decide_eq_true_eq, Bool.not_eq_true', decide_eq_false_iff_not] at h
  have := formS_size f
  omega
theorem read_raw (f : ByteArray) (hf : f.size < 1099511627776) (B : List Int) (hb : byteL B) (hBl : B.length < 1099511627776) : VC P 15 [.str f, sB B] [] (fun r ob' => (∃ l, r = .tup [.sl 0 (2 * l.length) 2 0 l.length, .int .i64 0] ∧ ob' = [.live (vcs l)] ∧ readP f B = (l, 0)) ∨ ∃ e, r = .tup [.nils, .int .i64 e] ∧ ob' = [] ∧ readP f B = ([], e)) := by
  refine VC_of_vwp_k ent_15 Tryd.func15 rfl (by simp) fun R hR => ?_
  refine vwp_sq [0, 1] fun K1 hK1 => vwp_region hT ?_
  simp
  refine hK1 _ ?_
  try clear hK1 K1
  refine vwp_sq [0, 1] fun K2 hK2 => vwp_region hT ?_
  simp
  refine vcall_k [] (parted_spec f hf) ?_
  rintro r ob' ⟨rfl, rfl⟩
  simp
  refine hK2 _ ?_
  try clear hK2 K2
  refine vwp_seq_k fun K3 hK3 => ?_
  refine vwp_block ?_
  refine vwp_sq [1, 6, 7, 8] fun K4 hK4 => vwp_region hT ?_
  simp
  refine hK4 _ ?_
  try clear hK4 K4
  refine vwp_cond (by first | rfl | (simp; rfl)) (fun h1 => ?_) fun h1 => ?_
  · simp -failIfUnchanged at h1; all_goals
   have hF : formF f = false := by simpa using h1
   have hrd : readP f B = ([], 1) := by rw [readP, if_pos hF]
   refine vwp_sq [] fun K5 hK5 => vwp_region hT ?_
   simp
   refine hK5 _ ?_
   try clear hK5 K5
   refine vwp_ret (hR _ _ ?_)
   exact ret_k [4, 5] [] ([]) (.tup [.nils, .int .i64 1]) (.inr ⟨1, rfl, rfl, hrd⟩)
  · simp -failIfUnchanged at h1; all_goals
   have hF : formF f = true := by simpa using h1
   obtain ⟨hs0, hs1⟩ := formF_pos hF
   refine vwp_sq [1, 6, 7] fun K6 hK6 => vwp_region hT ?_
   simp
   refine hK6 _ ?_
   try clear hK6 K6
   refine vwp_cond (by first | rfl | (simp; rfl)) (fun h2 => ?_) fun h2 => ?_
   · simp -failIfUnchanged at h2; all_goals
    have q := h2
    have hB2 : 20000 < B.length := by omega
    have hrd : readP f B = ([], 4) := by rw [readP, if_neg (by simp [hF]), if_pos hB2]
    refine vwp_sq [] fun K7 hK7 => vwp_region hT ?_
    simp
    refine hK7 _ ?_
    try clear hK7 K7
    refine vwp_ret (hR _ _ ?_)
    exact ret_k [4, 5] [] ([]) (.tup [.nils, .int .i64 4]) (.inr ⟨4, rfl, rfl, hrd⟩)
   · simp -failIfUnchanged at h2; all_goals
    have q := h2
    have hB2 : ¬ 20000 < B.length := by omega
    refine vwp_skip ?_
    refine hK3 _ ?_
    try clear hK3 K3
    refine vwp_sq [1, 6, 7] fun K8 hK8 => vwp_region hT ?_
    simp
    repeat refine ⟨by first | assumption | omega | (intros; omega), ?_⟩
    refine vcall_k [] (bclone_u B hBl) ?_
    rintro r ob' ⟨rfl, rfl⟩
    simp
    repeat refine ⟨by first | assumption | omega | (intros; omega), ?_⟩
    refine hK8 _ ?_
    try clear hK8 K8
    refine vwp_seq_k fun K9 hK9 => ?_
    rcases hal : allR (sL (formS f)) (formA f) B with e | l
    · refine vwp_gh ((Gh.freeze 0 (by rfl) (by intro c hc; simp at hc; obtain ⟨z, _, rfl⟩ := hc; rfl)).trans (Gh.cellFs 0 1 0 (by rfl) (by rfl) (by rfl) (by simp))) ?_
      have htk : List.take B.length (bts B) = bts B := List.take_of_length_le (by simp)
      simp [htk]
      have hrd0 : readP f B = match allR (sL (formS f)) (formA f) B with
          | .ok l => if 200 < l.length then ([], 4) else (l, 0)
          | .error e => ([], e) := by rw [readP, if_neg (by simp [hF]), if_neg hB2]
      refine vwp_live [6, 7, 9] (vwp_region hT ?_)
      simp
      refine vcall_k [1] (all_err (formS f) hs0 (by omega) (formA f) B hb hBl hal) ?_
      rintro r ob' ⟨rfl, o1, o2, o3, C, rfl⟩
      simp
      refine hK9 _ ?_
      try clear hK9 K9
      refine vwp_seq_k fun K10 hK10 => ?_
      have hen : e ≠ 0 := by have := allR_e hb hal; omega
      have hrd : readP f B = ([], e) := by rw [hrd0, hal]
      refine vwp_sq [10, 11] fun K11 hK11 => vwp_region hT ?_
      simp [hen]
      refine hK11 _ ?_
      try clear hK11 K11
      refine vwp_cond (by first | rfl | (simp; rfl)) (fun h3 => ?_) fun h3 => ?_
      · simp -failIfUnchanged at h3; all_goals
       refine vwp_seq_k fun K12 hK12 => ?_
       exfalso
       simp at *
      · simp -failIfUnchanged at h3; all_goals
       refine vwp_skip ?_
       refine hK10 _ ?_
       try clear hK10 K10
       refine vwp_sq [10, 11] fun K13 hK13 => vwp_region hT ?_
       simp
       refine hK13 _ ?_
       try clear hK13 K13
       refine vwp_ret (hR _ _ ?_)
       exact ret_k [4, 5] [] ([]) (.tup [.nils, .int .i64 e]) (.inr ⟨e, rfl, rfl, hrd⟩)
    · refine vwp_gh ((Gh.freeze 0 (by rfl) (by intro c hc; simp at hc; obtain ⟨z, _, rfl⟩ := hc; rfl)).trans (Gh.cellFs 0 1 0 (by rfl) (by rfl) (by rfl) (by simp))) ?_
      have htk : List.take B.length (bts B) = bts B := List.take_of_length_le (by simp)
      simp [htk]
      have hrd0 : readP f B = match allR (sL (formS f)) (formA f) B with
          | .ok l => if 200 < l.length then ([], 4) else (l, 0)
          | .error e => ([], e) := by rw [readP, if_neg (by simp [hF]), if_neg hB2]
      refine vwp_live [6, 7, 9] (vwp_region hT ?_)
      simp
      refine vcall_k [1] (all_ok (formS f) hs0 (by omega) (formA f) B hb hBl hal) ?_
      rintro r ob' ⟨rfl, o1, o2, C, rfl⟩
      simp
      refine hK9 _ ?_
      try clear hK9 K9
      refine vwp_seq_k fun K14 hK14 => ?_
      refine vwp_sq [10, 11] fun K15 hK15 => vwp_region hT ?_
      simp
      refine hK15 _ ?_
      try clear hK15 K15
      refine vwp_cond (by first | rfl | (simp; rfl)) (fun h4 => ?_) fun h4 => ?_
      · simp -failIfUnchanged at h4; all_goals
       have q := h4
       have hl2 : 200 < l.length := by omega
       have hrd : readP f B = ([], 4) := by rw [hrd0, hal]; simp only; rw [if_pos hl2]
       refine vwp_sq [] fun K16 hK16 => vwp_region hT ?_
       simp
       refine hK16 _ ?_
       try clear hK16 K16
       refine vwp_ret (hR _ _ ?_)
       exact ret_k [4, 5] [] ([]) (.tup [.nils, .int .i64 4]) (.inr ⟨4, rfl, rfl, hrd⟩)
      · simp -failIfUnchanged at h4; all_goals
       have q := h4
       have hl2 : ¬ 200 < l.length := by omega
       have hrd : readP f B = (l, 0) := by rw [hrd0, hal]; simp only; rw [if_neg hl2]
       refine vwp_skip ?_
       refine hK14 _ ?_
       try clear hK14 K14
       refine vwp_sq [10, 11] fun K17 hK17 => vwp_region hT ?_
       simp
       refine hK17 _ ?_
       try clear hK17 K17
       refine vwp_ret (hR _ _ ?_)
       exact ret_k [4, 5] [4] ([.live (vcs l)]) (.tup [.sl 0 (2 * l.length) 2 0 l.length, .int .i64 0]) (.inl ⟨l, rfl, rfl, hrd⟩)

/-- What comes is a list, none where there is none: a list that is empty. -/
theorem virtE {P : Program} {k : Nat} (esz : Nat) {args : List V} {ob : List Ob} {Q Q' : V → List Ob → Prop} (h : VC P k args ob Q) (hq : ∀ r ob', Q r ob' → Q' r ob' ∨ (r = .nils ∧ Q' (.sl ob'.length 0 esz 0 0) (ob' ++ [.live []])) ∨ ∃ rest, r = .tup (.nils :: rest) ∧ Q' (.tup (.sl ob'.length 0 esz 0 0 :: rest)) (ob' ++ [.live []])) : VC P k args ob Q' :=
  ⟨h.1, fun Φ H w vals hs hv => (h.2 Φ H w vals hs hv).mono fun e w' q => by
    cases e <;> simp only [post] at q ⊢
    obtain ⟨r, ob', Φ', H', h1, h2, h3⟩ := q
    have hst : HStep Φ' H' ob' w' Φ' (upd H' ob'.length none) (ob' ++ [.live []]) w' :=
      HStep.ofPush h1.sim rfl rfl rfl (fun _ _ => rfl) (Nat.le_refl _) (fun b hb => by cases hb) (fun E' _ _ _ => rfl)
    rcases hq _ _ h3 with q | ⟨rfl, q⟩ | ⟨rest, rfl, q⟩
    · exact ⟨r, ob', Φ', H', h1, h2, q⟩
    · exact ⟨_, _, _, _, h1.step hst, virt_rep esz h2, q⟩
    · obtain ⟨a, g1, rfl, g2⟩ := h2
      obtain ⟨u, us, e1, _, g3, g4⟩ := g2
      refine ⟨.tup (.sl ob'.length 0 esz 0 0 :: rest), ob' ++ [.live []], Φ', upd H' ob'.length none, h1.step hst, ⟨a, ?_, rfl, u, us, e1, trivial, virt_rep esz g3, VReps.ext hst.ext _ _ g4⟩, q⟩
      simpa [V.notTup] using g1⟩
theorem read_spec (f : ByteArray) (hf : f.size < 1099511627776) (B : List Int) (hb : byteL B) (hBl : B.length < 1099511627776) : VC P 15 [.str f, sB B] [] (fun r ob' => r = .tup [.sl 0 (2 * (readP f B).1.length) 2 0 (readP f B).1.length, .int .i64 (readP f B).2] ∧ ob' = [.live (vcs (readP f B).1)]) := by
  refine virtE 2 (read_raw f hf B hb hBl) fun r ob' q => ?_
  rcases q with ⟨l, rfl, rfl, e⟩ | ⟨e, rfl, rfl, h⟩
  · exact .inl (by rw [e]; exact ⟨rfl, rfl⟩)
  · exact .inr (.inr ⟨_, rfl, by rw [h]; exact ⟨rfl, rfl⟩⟩)
end Go.Proofs.YtgmcflbbdpbkeaaDoor
