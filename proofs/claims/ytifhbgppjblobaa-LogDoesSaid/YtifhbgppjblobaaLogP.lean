/- A log is opened. -/
import Derived.Test.YtifhbgppjblobaaLogO
namespace Go.Proofs.Ytifhbgppjblobaa
open Go Go.VX Go.RowKit
set_option linter.unusedVariables false
set_option linter.unusedSimpArgs false
set_option maxHeartbeats 20000000
set_option maxRecDepth 100000

theorem gatherK_le {d : Dk} {n hf at_ long : Nat} : ∀ (f : Nat) (b : List Int) (k : Nat), at_ + k ≤ n / 2 → at_ + (gatherK d n hf at_ long f b k).2 ≤ n / 2 ∧ k ≤ (gatherK d n hf at_ long f b k).2
  | 0, b, k, h => ⟨h, Nat.le_refl _⟩
  | f + 1, b, k, h => by
    rw [gatherK]
    split
    · rename_i hc
      have := gatherK_le (d := d) (n := n) (hf := hf) (at_ := at_) (long := long) f (b ++ (d.sector (hf * (n / 2) + (at_ + k))).take (min (long - b.length) 32)) (k + 1) (by omega)
      exact ⟨this.1, by omega⟩
    · exact ⟨h, Nat.le_refl _⟩

theorem recOne_le {d : Dk} {n h gen at_ place k : Nat} {b : List Int} (hat : at_ < n / 2) (hh : recOne d n h gen at_ place = some (k, b)) : at_ + k ≤ n / 2 := by
  unfold recOne at hh
  simp only at hh
  split at hh
  · cases hh
  split at hh
  · cases hh
  split at hh
  · simp only [Option.some.injEq, Prod.mk.injEq] at hh
    rw [← hh.1]
    exact (gatherK_le _ _ _ (by omega)).1
  · cases hh
theorem recsK_le {d : Dk} {n h gen : Nat} : ∀ (f at_ place : Nat), at_ ≤ n / 2 → at_ + sumK (recsK d n h gen f at_ place) ≤ n / 2
  | 0, at_, place, hat => by simpa [recsK, sumK] using hat
  | f + 1, at_, place, hat => by
    rw [recsK]
    split
    · rename_i hlt
      split
      · rename_i r hr
        obtain ⟨k, b⟩ := r
        have h1 := recOne_le hlt hr
        have := recsK_le (d := d) (h := h) (gen := gen) f (at_ + k) (place + 1) h1
        simp only [sumK, List.map_cons, List.sum_cons] at this ⊢
        omega
      · simpa [sumK] using hat
    · simpa [sumK] using hat
theorem genL_le (d : Dk) (n h : Nat) : genL d n h ≤ 2147483647 := by
  unfold genL
  split
  · omega
  · rename_i hh
    omega
theorem recsK_length {d : Dk} {n h gen : Nat} : ∀ (f at_ place : Nat), (recsK d n h gen f at_ place).length ≤ f
  | 0, _, _ => by simp [recsK]
  | f + 1, at_, place => by
    rw [recsK]
    split
    · split
      · rename_i r _
        have := recsK_length (d := d) (n := n) (h := h) (gen := gen) f (at_ + r.1) (place + 1)
        simp only [List.length_cons]
        omega
      · simp
    · simp
theorem sumK_take (l : List (Nat × List Int)) (i : Nat) : sumK (l.take i) ≤ sumK l := by
  have : sumK l = sumK (l.take i) + sumK (l.drop i) := by
    unfold sumK
    rw [← List.sum_append, ← List.map_append, List.take_append_drop]
  omega
theorem sumK_succ {l : List (Nat × List Int)} {i k : Nat} {b : List Int} (h : l[i]? = some (k, b)) : sumK (l.take (i + 1)) = sumK (l.take i) + k := by
  simp [sumK, List.take_add_one, h]
def Lg.new (gen : Nat) : Lg := ⟨0, gen, [], 0, false⟩
/-- Behind the head: what is read, and wiped. -/
def openR (d : Dk) (n : Nat) (g : Lg) : Option Lg × Int × Dk :=
  let g1 := g.had (recsL d n g.half g.gen)
  let w := wipeK n g.half g1.fin (n / 2 - g1.fin) g1 d
  if w.1 = 0 then (some w.2.1, 0, w.2.2) else (none, w.1, w.2.2)
def openL (d : Dk) (n : Nat) : Option Lg × Int × Dk :=
  if n < 4 then (none, 1, d)
  else if max (genL d n 0) (genL d n 1) = 0 then
    let w := beginL (Lg.new 0) d n
    if w.1 = 0 then openR w.2.2 n { w.2.1 with gen := 1 } else (none, w.1, w.2.2)
  else openR d n { Lg.new (max (genL d n 0) (genL d n 1)) with half := if genL d n 0 < genL d n 1 then 1 else 0 }
abbrev logO (r : Nat) (g : Lg) : Ob := .live [.ptr 0 5 0, .int .i64 g.half, .int .u32 g.gen, .sl r g.rows.length 1 0 g.rows.length, .int .i64 g.fin, .bool g.broken]
def openQ (n : Nat) (x : Option Lg × Int × Dk) (r : V) (ob' : List Ob) : Prop :=
  match x.1 with
  | none => r = .tup [.nilp, .int .i64 x.2.1] ∧ ob' = x.2.2.obs n
  | some g => r = .tup [.ptr 2 6 0, .int .i64 x.2.1] ∧ ob' = x.2.2.obs n ++ [logO 3 g, .live (g.rows.map sB)]
/-- What there is while it opens. -/
abbrev oobs (g : Lg) (d : Dk) (n : Nat) : List Ob := [.live [.sl 1 d.B.length 32 0 n, .bool d.down, .int .i64 d.fuse, .int .i64 d.torn, .int .i64 d.writes], .live (bts d.B), logO 4 g, .live [.ptr 2 6 0], .live (g.rows.map sB)]

theorem byteL_append {a b : List Int} (ha : byteL a) (hb : byteL b) : byteL (a ++ b) := fun x hx => by
  rcases List.mem_append.1 hx with q | q
  · exact ha x q
  · exact hb x q
theorem byteL_zeros (k : Nat) : byteL (List.replicate k 0) := fun x hx => by
  rw [List.eq_of_mem_replicate hx]; omega
theorem markL_byte {l : List Int} (h : byteL l) : byteL (markL l) := by
  refine byteL_append (byteL_append h (byteL_zeros _)) fun x hx => ?_
  rw [List.mem_singleton.1 hx]; omega
theorem headL_byte (gen : Nat) : byteL (headL gen) := markL_byte (byteL_append (laidB_byte _ _) (laidB_byte _ _))
theorem pad_byte {b : List Int} (h : byteL b) : byteL (pad b) := byteL_append h (byteL_zeros _)
theorem splI_byte {l m : List Int} (o : Nat) (hl : byteL l) (hm2 : byteL m) : byteL (splI l o m) := by
  unfold splI
  exact byteL_append (byteL_append (fun x hx => hl x (List.mem_of_mem_take hx)) hm2) (fun x hx => hl x (List.mem_of_mem_drop hx))
theorem write_byte {d : Dk} {n : Nat} {a : Int} (hb : byteL d.B) (b : List Int) (h : byteL b) : byteL (d.write n a b).2.B := by
  unfold Dk.write
  split
  · split
    · exact hb
    · split
      · exact hb
      · split
        · exact splI_byte _ hb (take_byte (pad_byte h) _)
        · exact splI_byte _ hb (pad_byte h)
  · exact hb

theorem begin_ok {g : Lg} {d d2 : Dk} {n : Nat} (hd : d.ok n) (hb : byteL d.B) (h2 : d2 = (beginL g d n).2.2) : d2.ok n ∧ byteL d2.B := by
  rw [h2, beginL]
  split
  · exact ⟨write_ok hd _ _, write_byte hb _ (headL_byte 1)⟩
  · exact ⟨hd, hb⟩
theorem begin_rows {g g2 : Lg} {d : Dk} {n : Nat} (h2 : g2 = (beginL g d n).2.1) (hr : g.rows = []) (hh : g.half ≤ 1) : g2.rows = [] ∧ g2.half ≤ 1 := by
  rw [h2, beginL]
  split
  · exact ⟨hr, hh⟩
  · exact ⟨hr, hh⟩
theorem open_spec (d : Dk) (n : Nat) (hd : d.ok n) (hbt : byteL d.B) : VC P 9 [.ptr 0 5 0] (d.obs n) (fun r ob' => openQ n (openL d n) r ob') := by
  refine VC_of_vwp_k ent_9 Try.func9 rfl (by simp) fun R hR => ?_
  refine vwp_sq [0] fun K1 hK1 => vwp_region hT ?_
  simp [Dk.obs]
  refine hK1 _ ?_
  try clear hK1 K1
  refine vwp_seq_k fun K2 hK2 => ?_
  refine vwp_seq_k fun K3 hK3 => ?_
  have hn4 := hd.n4
  have hn2 := hd.n2
  by_cases h4 : n < 4
  · have hop : openL d n = (none, 1, d) := by rw [openL, if_pos h4]
    refine vwp_live [0, 2, 3] (vwp_region hT ?_)
    simp [Dk.obs, h4]
    refine vcall_k [0, 1] (sectors_spec d n) ?_ (hh := by simp [Dk.obs])
    rintro r ob' ⟨rfl, rfl⟩
    simp only [Dk.obs]
    simp [Dk.obs, h4]
    refine hK3 _ ?_
    try clear hK3 K3
    refine vwp_cond (by first | rfl | (simp; rfl)) (fun h1 => ?_) fun h1 => ?_
    · simp -failIfUnchanged at h1; all_goals
     refine vwp_sq [] fun K4 hK4 => vwp_region hT ?_
     simp [Dk.obs]
     refine hK4 _ ?_
     try clear hK4 K4
     refine vwp_ret (hR _ _ ?_)
     exact ret_k [2, 3] [0, 1] (d.obs n) (.tup [.nilp, .int .i64 1]) (by rw [hop]; exact ⟨rfl, rfl⟩) (hh := by simp [Dk.obs])
    · simp -failIfUnchanged at h1; all_goals
     refine vwp_skip ?_
     refine hK2 _ ?_
     try clear hK2 K2
     refine vwp_seq_k fun K5 hK5 => ?_
     exfalso
     omega
  · obtain ⟨p, hp⟩ : ∃ p, p = n / 2 := ⟨_, rfl⟩
    refine vwp_live [0, 2, 3] (vwp_region hT ?_)
    simp [Dk.obs]
    refine vcall_k [0, 1] (sectors_spec d n) ?_ (hh := by simp [Dk.obs])
    rintro r ob' ⟨rfl, rfl⟩
    simp only [Dk.obs]
    simp [Dk.obs]
    refine hK3 _ ?_
    try clear hK3 K3
    refine vwp_cond (by first | rfl | (simp; rfl)) (fun h2 => ?_) fun h2 => ?_
    · simp -failIfUnchanged at h2; all_goals
     refine vwp_seq_k fun K6 hK6 => ?_
     exfalso
     omega
    · simp -failIfUnchanged at h2; all_goals
     refine vwp_skip ?_
     refine hK2 _ ?_
     try clear hK2 K2
     refine vwp_sq [0, 2, 3] fun K7 hK7 => vwp_region hT ?_
     simp [Dk.obs]
     repeat refine ⟨by first | assumption | omega | (intros; omega), ?_⟩
     refine hK7 _ ?_
     try clear hK7 K7
     refine vwp_gh (Gh.virtCell 2 3 1 (by rfl) (by rfl)) ?_
     obtain ⟨g0, hg0⟩ : ∃ g0, g0 = Lg.new 0 := ⟨_, rfl⟩
     refine vwp_gh (st' := ⟨[(4, .ptr 3 1 0)], oobs g0 d n⟩) (Gh.to_k [4] [0, 1, 2, 3, 4] (hh := by simp [hg0, Lg.new])) ?_
     have hga := generation2_spec g0 d n hd hbt 0 (by omega)
     have hgb := generation2_spec g0 d n hd hbt 1 (by omega)
     obtain ⟨A, hA⟩ : ∃ A, A = genL d n 0 := ⟨_, rfl⟩
     obtain ⟨B, hB⟩ : ∃ B, B = genL d n 1 := ⟨_, rfl⟩
     have hAl : A ≤ 2147483647 := by rw [hA]; exact genL_le d n 0
     have hBl : B ≤ 2147483647 := by rw [hB]; exact genL_le d n 1
     rw [← hA] at hga
     rw [← hB] at hgb
     have hz0 : (((0 : Nat) : Int)) = 0 := rfl
     have hz1 : (((1 : Nat) : Int)) = 1 := rfl
     rw [hz0] at hga
     rw [hz1] at hgb
     refine vwp_sq [2, 3, 4] fun K8 hK8 => vwp_storm hT hm [.win 0 0, .mv, .win 0 1, .mv, .pure, .pure] [[], [0], [], [0, 1, 2], [0, 1, 2, 3], [0, 1, 2, 3, 4]] (by kernel_rfl) ?_
     simp [Dk.obs]
     refine ⟨.int .u32 (A : Int), oobs g0 d n, fun sl => ?_, ?_⟩
     · refine vcall_k [2, 0, 1, 4] (hga) ?_
       rintro r ob' ⟨rfl, rfl⟩
       simp
     simp [Dk.obs]
     refine ⟨.int .u32 (B : Int), oobs g0 d n, fun sl => ?_, ?_⟩
     · refine vcall_k [2, 0, 1, 4] (hgb) ?_
       rintro r ob' ⟨rfl, rfl⟩
       simp
     simp [Dk.obs]
     refine hK8 _ ?_
     try clear hK8 K8
     obtain ⟨M, hM⟩ : ∃ M, M = max A B := ⟨_, rfl⟩
     have w1 : (if (A : Int) < (B : Int) then (B : Int) else (A : Int)) = (M : Int) := by split <;> omega
     have w1b : (if A < B then (B : Int) else (A : Int)) = (M : Int) := by split <;> omega
     have w2b : (if B < A then (A : Int) else (B : Int)) = (M : Int) := by split <;> omega
     have w2 : (if (B : Int) < (A : Int) then (A : Int) else (B : Int)) = (M : Int) := by split <;> omega
     refine vwp_sq [2, 3, 4, 5, 6] fun K9 hK9 => vwp_region hT ?_
     simp [Dk.obs, w1, w2, w1b, w2b]
     repeat refine ⟨by first | assumption | omega | (intros; omega), ?_⟩
     refine hK9 _ ?_
     try clear hK9 K9
     refine vwp_cut_s (fun v : Lg × Dk => ⟨[(4, .ptr 3 1 0)], oobs v.1 v.2 n⟩) (fun v => v.2.ok n ∧ byteL v.2.B ∧ v.1.rows = [] ∧ v.1.half ≤ 1 ∧ v.1.gen < 4294967296 ∧ openL d n = openR v.2 n v.1) (fun K10 hK10 => ?_) ?_
     · refine vwp_block ?_
       obtain ⟨g1, hg1⟩ : ∃ g1, g1 = { g0 with gen := M } := ⟨_, rfl⟩
       refine vwp_gh (st' := ⟨[(4, .ptr 3 1 0), (5, .int .u32 (A : Int)), (6, .int .u32 (B : Int))], oobs g1 d n⟩) (Gh.to_k [4, 5, 6] [0, 1, 2, 3, 4] (hh := by simp [hg1])) ?_
       have hgen1 : g1.gen = M := by rw [hg1]
       refine vwp_sq [2, 3, 4, 5, 6] fun K11 hK11 => vwp_region hT ?_
       simp [Dk.obs, hgen1]
       refine hK11 _ ?_
       try clear hK11 K11
       refine vwp_cond (by first | rfl | (simp; rfl)) (fun h3 => ?_) fun h3 => ?_
       · simp -failIfUnchanged at h3; all_goals
        have q := h3
        have hM0 : M = 0 := by omega
        have hbeg := begin_spec g1 d n hd
        obtain ⟨be, hbe⟩ : ∃ be, be = (beginL g1 d n).1 := ⟨_, rfl⟩
        obtain ⟨g2, hg2⟩ : ∃ g2, g2 = (beginL g1 d n).2.1 := ⟨_, rfl⟩
        obtain ⟨d2, hd2⟩ : ∃ d2, d2 = (beginL g1 d n).2.2 := ⟨_, rfl⟩
        rw [← hbe, ← hg2, ← hd2] at hbeg
        have hgl : g1 = Lg.new 0 := by rw [hg1, hg0, hM0]; rfl
        have hop : openL d n = if be = 0 then openR d2 n { g2 with gen := 1 } else (none, be, d2) := by
          rw [openL, if_neg h4, if_pos (by rw [← hA, ← hB, ← hM]; exact hM0), ← hgl]
          simp only [← hbe, ← hg2, ← hd2]
        refine vwp_seq_k fun K12 hK12 => ?_
        refine vwp_sq [2, 3, 4] fun K13 hK13 => vwp_region hT ?_
        simp [Dk.obs]
        refine vcall_k [2, 0, 1, 4] (hbeg) ?_
        rintro r ob' ⟨rfl, rfl⟩
        simp [Dk.obs]
        refine hK13 _ ?_
        try clear hK13 K13
        refine vwp_sq [2, 3, 4, 7] fun K14 hK14 => vwp_region hT ?_
        simp [Dk.obs]
        refine hK14 _ ?_
        try clear hK14 K14
        refine vwp_cond (by first | rfl | (simp; rfl)) (fun h4 => ?_) fun h4 => ?_
        · simp -failIfUnchanged at h4; all_goals
         have q2 := h4
         rw [if_neg (by simpa using q2)] at hop
         refine vwp_sq [7] fun K15 hK15 => vwp_region hT ?_
         simp [Dk.obs]
         refine hK15 _ ?_
         try clear hK15 K15
         refine vwp_ret (hR _ _ ?_)
         exact ret_k [2, 3] [0, 1] (d2.obs n) (.tup [.nilp, .int .i64 be]) (by rw [hop]; exact ⟨rfl, rfl⟩) (hh := by simp [Dk.obs])
        · simp -failIfUnchanged at h4; all_goals
         have q2 := h4
         have hbe0 : be = 0 := by simpa using q2
         rw [if_pos hbe0] at hop
         obtain ⟨hok2, hby2⟩ := begin_ok hd hbt hd2
         obtain ⟨hr2, hh2⟩ := begin_rows hg2 (by rw [hgl]; rfl) (by rw [hgl]; exact Nat.zero_le 1)
         refine vwp_skip ?_
         refine hK12 _ ?_
         try clear hK12 K12
         refine vwp_live [2, 3, 4] (vwp_region hT ?_)
         simp [Dk.obs]
         repeat refine ⟨by first | assumption | omega | (intros; omega), ?_⟩
         exact hK10 ({ g2 with gen := 1 }, d2) _ (Gh.to_k [4] [0, 1, 2, 3, 4] (hh := by simp)) (⟨hok2, hby2, hr2, hh2, by simp, hop⟩)
       · simp -failIfUnchanged at h3; all_goals
        have q := h3
        have hM0 : ¬ M = 0 := by omega
        refine vwp_sq [2, 3, 4, 5, 6] fun K16 hK16 => vwp_region hT ?_
        simp [Dk.obs]
        refine hK16 _ ?_
        try clear hK16 K16
        refine vwp_cond (by first | rfl | (simp; rfl)) (fun h5 => ?_) fun h5 => ?_
        · simp -failIfUnchanged at h5; all_goals
         have q2 := h5
         have hgM : ({ g1 with half := 1 } : Lg) = { Lg.new M with half := 1 } := by rw [hg1, hg0]; rfl
         have hop : openL d n = openR d n { g1 with half := 1 } := by
           rw [hgM, openL, if_neg h4, if_neg (by rw [← hA, ← hB, ← hM]; exact hM0), if_pos (by rw [← hA, ← hB]; omega), ← hA, ← hB, ← hM]
         refine vwp_live [2, 3, 4] (vwp_region hT ?_)
         simp [Dk.obs]
         repeat refine ⟨by first | assumption | omega | (intros; omega), ?_⟩
         exact hK10 ({ g1 with half := 1 }, d) _ (Gh.to_k [4] [0, 1, 2, 3, 4] (hh := by simp)) (⟨hd, hbt, by rw [hg1, hg0]; rfl, Nat.le_refl 1, by rw [hg1]; dsimp only; omega, hop⟩)
        · simp -failIfUnchanged at h5; all_goals
         have q2 := h5
         have hgM : g1 = Lg.new M := by rw [hg1, hg0]; rfl
         have hop : openL d n = openR d n g1 := by
           rw [hgM, openL, if_neg h4, if_neg (by rw [← hA, ← hB, ← hM]; exact hM0), if_neg (by rw [← hA, ← hB]; omega), ← hA, ← hB, ← hM]; rfl
         refine vwp_skip ?_
         exact hK10 (g1, d) _ (Gh.to_k [4] [0, 1, 2, 3, 4] (hh := by simp)) (⟨hd, hbt, by rw [hg1, hg0]; rfl, by rw [hg1, hg0]; exact Nat.zero_le 1, by rw [hg1]; dsimp only; omega, hop⟩)
     · rintro ⟨g, d2⟩ ⟨hd2, hbt2, hgr, hgh, hgg, hop⟩
       dsimp only at hd2 hbt2 hgr hgh hgg hop ⊢
       refine vwp_sq [2, 3, 4] fun K17 hK17 => vwp_region hT ?_
       simp [Dk.obs]
       repeat refine ⟨by first | assumption | omega | (intros; omega), ?_⟩
       refine hK17 _ ?_
       try clear hK17 K17
       refine vwp_seq_k fun K18 hK18 => ?_
       obtain ⟨g3, hg3⟩ : ∃ g3, g3 = { g with fin := 1 } := ⟨_, rfl⟩
       refine vwp_gh (st' := ⟨[(4, .ptr 3 1 0)], oobs g3 d2 n⟩) (Gh.to_k [4] [0, 1, 2, 3, 4] (hh := by simp [hg3])) ?_
       have hgr3 : g3.rows = [] := by rw [hg3]; exact hgr
       have hfin3 : g3.fin = 1 := by rw [hg3]
       have hgh3 : g3.half ≤ 1 := by rw [hg3]; exact hgh
       have hgg3 : g3.gen < 4294967296 := by rw [hg3]; exact hgg
       obtain ⟨rs, hrs⟩ : ∃ rs, rs = recsL d2 n g3.half g3.gen := ⟨_, rfl⟩
       have hsum : 1 + sumK rs ≤ n / 2 := by rw [hrs]; exact recsK_le _ _ _ (by omega)
       have hrsl : rs.length ≤ n / 2 := by rw [hrs]; exact recsK_length _ _ _
       have hsto := stored_spec g3 d2 n g3.half g3.gen
       refine vwp_sq [2, 3, 4] fun K19 hK19 => vwp_storm hT hm [.win 0 0, .win 0 0, .win 0 0, .win 0 0, .win 0 0, .win 0 0, .win 0 0, .win 0 0, .win 0 0, .mv] [[], [], [1], [1, 2], [1, 2, 3], [], [5], [5, 6], [5, 6, 7], [0, 1, 2, 3, 4, 5, 6, 7, 8]] (by kernel_rfl) ?_
       simp [Dk.obs]
       refine ⟨.fn 61 [.ptr 5 1 0, .ptr 6 1 0, .ptr 7 1 0], oobs g3 d2 n ++ [.live [.ptr 2 6 0], .live [.int .i64 g3.half], .live [.int .u32 g3.gen]], fun sl => ?_, ?_⟩
       · refine vcall_k [2, 0, 1, 4] (hsto) ?_
         rintro r ob' ⟨rfl, rfl⟩
         simp
       simp [Dk.obs]
       refine hK19 _ ?_
       try clear hK19 K19
       refine vwp_block ?_
       refine vwp_gh (st' := ⟨[(4, .ptr 3 1 0), (64, .fn 61 [.ptr 5 1 0, .ptr 6 1 0, .ptr 7 1 0])], oobs g3 d2 n ++ [.live [.ptr 2 6 0], .live [.int .i64 g3.half], .live [.int .u32 g3.gen]]⟩) (Gh.to_k [4, 64] [0, 1, 2, 3, 4, 5, 6, 7]) ?_
       refine vwp_range [4] rfl fun ac bd hac hbd => ?_
       simp
       refine vcall_k [5, 6, 7, 8, 2, 0, 1, 4, 3] (stored1_spec g3 d2 n g3.half g3.gen hd2 hbt2 hgh3 hgg3 (ac := ac) (bd := bd) rs hrs (fun i k b hget => ?_)) ?_ (hh := by simp [Lg.had, sumK, hgr3, hfin3])
       · refine YC_of_round hac hbd rfl (by simp) (by simp) ?_
         simp only [putL, List.zip_cons_cons, List.zip_nil_left, List.zip_nil_right, List.map]
         refine vwp_sq [4, 65, 66] fun K20 hK20 => vwp_region hT ?_
         simp [Dk.obs]
         refine hK20 _ ?_
         try clear hK20 K20
         refine vwp_live [4, 8, 66] (vwp_region hT ?_)
         simp [Dk.obs]
         try refine ⟨rfl, ?_⟩
         try simp only [List.set]
         refine vwp_block ?_
         have hsk := sumK_succ hget
         have hst2 := sumK_take rs (i + 1)
         have hirl := (List.getElem?_eq_some_iff.1 hget).1
         have hlen : min i rs.length = i := by omega
         have hrow : (rs.take (i + 1)).map (·.2) = (rs.take i).map (·.2) ++ [b] := by simp [List.take_add_one, hget]
         obtain ⟨gi, hgi⟩ : ∃ gi, gi = g3.had (rs.take i) := ⟨_, rfl⟩
         have hfi : gi.fin = 1 + sumK (rs.take i) := by rw [hgi]; rfl
         have w1 : IntKind.i64.wrap ((gi.fin : Int) + (k : Int)) = (gi.fin : Int) + (k : Int) := w64 (by omega) (by omega)
         have hgl : gi.rows.length ≤ 2048 := by rw [hgi]; simp [Lg.had]; omega
         obtain ⟨gj, hgj⟩ : ∃ gj, gj = g3.had (rs.take (i + 1)) := ⟨_, rfl⟩
         have e1 : gj.half = gi.half := by rw [hgj, hgi]; rfl
         have e2 : gj.gen = gi.gen := by rw [hgj, hgi]; rfl
         have e3 : gj.rows = gi.rows ++ [b] := by rw [hgj, hgi]; exact hrow
         have e4 : gj.fin = gi.fin + k := by rw [hgj, hfi]; show 1 + sumK _ = _; rw [hsk]; omega
         have e5 : gj.broken = gi.broken := by rw [hgj, hgi]; rfl
         rw [← hgi]
         refine vwp_live [4, 8, 9] (vwp_storm hT hm [.win 0 1, .win 0 2, .win 0 0, .win 0 0, .win 0 0, .win 0 0, .pure, .lit, .mv, .win 0 1, .win 0 1, .win 0 1, .win 0 1, .pure, .win 0 2, .win 1 1, .win 1 1, .mv, .win 2 2, .win 2 2, .mv] [[], [], [], [2], [2, 3], [2, 3, 4], [], [6], [2, 3, 4, 5, 6, 7], [], [9], [9, 10], [9, 10, 11], [], [9, 10, 11, 12, 13], [0, 2, 3, 4, 5, 6, 7, 8, 9, 10, 11, 12], [0, 2, 3, 4, 5, 6, 7, 8, 9, 10, 11, 12, 15], [0, 2, 3, 4, 5, 6, 7, 8, 9, 10, 11, 12, 15, 16], [0, 1, 2, 3, 4, 5, 6, 7, 8, 9, 10, 11, 12, 13, 14, 15, 16, 17], [0, 1, 2, 3, 4, 5, 6, 7, 8, 9, 10, 11, 12, 13, 14, 15, 16, 17, 18], [0, 1, 2, 3, 4, 5, 6, 7, 8, 9, 10, 11, 12, 13, 14, 15, 16, 17, 18, 19]] (by kernel_rfl) ?_)
         simp [Dk.obs, w1]
         repeat refine ⟨by first | assumption | omega | (intros; omega), ?_⟩
         refine ⟨⟨[], sobs .busy ac bd gj d2 n g3.half g3.gen⟩, Gh.to_k [] [0, 1, 2, 3, 4, 5, 6, 7, 8] (hh := by simp [e1, e2, e3, e4, e5]), ?_⟩
         refine ⟨_, _, _, _, _, _, _, rfl, rfl, ?_⟩
         rw [← hgj]
         simp
       · rintro r ob' rfl
         simp
         refine ⟨_, _, _, _, _, _, _, _, rfl, by simp, ?_⟩
         simp only [inBlk, thenQ, List.set]
         refine hK18 _ ?_
         try clear hK18 K18
         refine vwp_seq_k fun K21 hK21 => ?_
         try simp only [List.take_length]
         obtain ⟨g4, hg4⟩ : ∃ g4, g4 = g3.had rs := ⟨_, rfl⟩
         rw [← hg4]
         refine vwp_gh (st' := ⟨[(4, .ptr 3 1 0)], oobs g4 d2 n⟩) (Gh.to_k [4] [0, 1, 2, 3, 4] (hh := by simp [])) ?_
         have hh4 : g4.half ≤ 1 := by rw [hg4]; exact hgh3
         have hf4 : g4.fin ≤ n / 2 := by rw [hg4]; exact hsum
         have hwp := wipe_spec g4 d2 n hd2 g4.half g4.fin hh4 hf4
         obtain ⟨W, hW⟩ : ∃ W, W = wipeK n g4.half g4.fin (n / 2 - g4.fin) g4 d2 := ⟨_, rfl⟩
         rw [← hW] at hwp
         obtain ⟨we, wg, wd⟩ := W
         dsimp only at hwp
         have hop2 : openL d n = if we = 0 then (some wg, 0, wd) else (none, we, wd) := by
           rw [hop, openR]
           have hgg : g.had (recsL d2 n g.half g.gen) = g4 := by rw [hg4, hrs, hg3]; rfl
           simp only [hgg]
           have hh5 : g.half = g4.half := by rw [hg4, hg3]; rfl
           rw [hh5, ← hW]
         refine vwp_sq [4] fun K22 hK22 => vwp_storm hT hm [.win 0 0, .win 0 0, .win 0 0, .win 0 0, .win 0 0, .win 0 0, .win 0 0, .win 0 0, .win 0 0, .mv, .pure] [[], [], [1], [1, 2], [1, 2, 3], [], [5], [5, 6], [5, 6, 7], [0, 1, 2, 3, 4, 5, 6, 7, 8], [0, 1, 2, 3, 4, 5, 6, 7, 8, 9]] (by kernel_rfl) ?_
         simp [Dk.obs]
         refine ⟨.int .i64 we, oobs wg wd n, fun sl => ?_, ?_⟩
         · refine vcall_k [2, 0, 1, 4] (hwp) ?_
           rintro r ob' ⟨rfl, rfl⟩
           simp
         simp [Dk.obs]
         refine hK22 _ ?_
         try clear hK22 K22
         refine vwp_sq [4, 10] fun K23 hK23 => vwp_region hT ?_
         simp [Dk.obs]
         refine hK23 _ ?_
         try clear hK23 K23
         refine vwp_cond (by first | rfl | (simp; rfl)) (fun h6 => ?_) fun h6 => ?_
         · simp -failIfUnchanged at h6; all_goals
          have q := h6
          rw [if_neg (by simpa using q)] at hop2
          refine vwp_sq [10] fun K24 hK24 => vwp_region hT ?_
          simp [Dk.obs]
          refine hK24 _ ?_
          try clear hK24 K24
          refine vwp_ret (hR _ _ ?_)
          exact ret_k [2, 3] [0, 1] (wd.obs n) (.tup [.nilp, .int .i64 we]) (by rw [hop2]; exact ⟨rfl, rfl⟩) (hh := by simp [Dk.obs])
         · simp -failIfUnchanged at h6; all_goals
          have q := h6
          rw [if_pos (by simpa using q)] at hop2
          refine vwp_skip ?_
          refine hK21 _ ?_
          try clear hK21 K21
          refine vwp_sq [4] fun K25 hK25 => vwp_region hT ?_
          simp [Dk.obs]
          refine hK25 _ ?_
          try clear hK25 K25
          refine vwp_ret (hR _ _ ?_)
          exact ret_k [2, 3] [0, 1, 2, 4] (wd.obs n ++ [logO 3 wg, .live (wg.rows.map sB)]) (.tup [.ptr 2 6 0, .int .i64 0]) (by rw [hop2]; exact ⟨rfl, rfl⟩) (hh := by simp [Dk.obs])
end Go.Proofs.Ytifhbgppjblobaa
