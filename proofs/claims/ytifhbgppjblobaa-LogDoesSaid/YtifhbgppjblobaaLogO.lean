/- The records of a half. -/
import Derived.Test.YtifhbgppjblobaaLogN
import Derived.Test.YtifhbgppjblobaaVXc
namespace Go.Proofs.Ytifhbgppjblobaa
open Go Go.VX Go.RowKit
set_option linter.unusedVariables false
set_option linter.unusedSimpArgs false
set_option maxHeartbeats 20000000
set_option maxRecDepth 100000

/-- A record's bytes, sector by sector: so many are had, of so many sectors. -/
def gatherK (d : Dk) (n h at_ long : Nat) : Nat → List Int → Nat → List Int × Nat
  | 0, b, k => (b, k)
  | f + 1, b, k => if b.length < long ∧ at_ + k < n / 2 then gatherK d n h at_ long f (b ++ (d.sector (h * (n / 2) + (at_ + k))).take (min (long - b.length) 32)) (k + 1) else (b, k)
theorem gatherK_end {d : Dk} {n h at_ long : Nat} {b : List Int} {k : Nat} (hh : ¬ (b.length < long ∧ at_ + k < n / 2)) : ∀ f, gatherK d n h at_ long f b k = (b, k)
  | 0 => rfl
  | f + 1 => by rw [gatherK, if_neg hh]
/-- The record at a place of a half, and of how many sectors it is. -/
def recOne (d : Dk) (n h gen at_ place : Nat) : Option (Nat × List Int) :=
  let s := d.sector (h * (n / 2) + at_)
  let long := tellN (s.take 2)
  if 200 < long then none else
    let r := gatherK d n h at_ long 200 ((s.drop 14).take (min long 17)) 1
    if r.1.length < long then none else if standB d n h at_ (secL r.1 gen place) = true then some (r.2, r.1) else none
def recsK (d : Dk) (n h gen : Nat) : Nat → Nat → Nat → List (Nat × List Int)
  | 0, _, _ => []
  | f + 1, at_, place => if at_ < n / 2 then match recOne d n h gen at_ place with
      | some r => r :: recsK d n h gen f (at_ + r.1) (place + 1)
      | none => []
    else []
def recsL (d : Dk) (n h gen : Nat) : List (Nat × List Int) := recsK d n h gen (n / 2) 1 0
theorem drop_cons {α : Type} {l : List α} {i : Nat} {x : α} {r : List α} (h : l.drop i = x :: r) : l[i]? = some x ∧ l.drop (i + 1) = r := by
  constructor
  · have := congrArg (fun q => q[0]?) h
    simpa using this
  · rw [← List.drop_drop, h]; rfl
theorem secL_len {b : List Int} {gen place k : Nat} (h1 : b.length ≤ 17 + 32 * (k - 1)) (h2 : k = 1 ∨ 17 + 32 * (k - 2) < b.length) (h3 : 1 ≤ k) : (secL b gen place).length = k := by
  simp only [secL, List.length_cons, chs_len, nch, List.length_drop]
  omega
theorem secL_32 {b : List Int} {gen place : Nat} : ∀ w ∈ secL b gen place, w.length ≤ 32 := by
  intro w hw
  simp only [secL, List.mem_cons, chs, List.mem_map, List.mem_range] at hw
  rcases hw with rfl | ⟨i, _, rfl⟩
  · rw [firstL, markL_len (by simp [topL_len, laidB_len]; omega)]; exact Nat.le_refl _
  · simp [chk]; omega
def sumK (l : List (Nat × List Int)) : Nat := (l.map (·.1)).sum
def Lg.had (g : Lg) (rs : List (Nat × List Int)) : Lg := { g with rows := rs.map (·.2), fin := 1 + sumK rs }
theorem stored_spec (g : Lg) (d : Dk) (n : Nat) (h gen : Nat) : VC P 33 [.ptr 0 6 0, .int .i64 h, .int .u32 gen] (lobs g d n) (fun r ob' => r = .fn 61 [.ptr 4 1 0, .ptr 5 1 0, .ptr 6 1 0] ∧ ob' = lobs g d n ++ [.live [.ptr 0 6 0], .live [.int .i64 h], .live [.int .u32 gen]]) := by
  refine VC_of_vwp_k ent_33 Try.func33 rfl (by simp) fun R hR => ?_
  refine vwp_sq [0, 1, 2] fun K1 hK1 => vwp_region hT ?_
  simp
  refine hK1 _ ?_
  try clear hK1 K1
  refine vwp_sq [3, 4, 5] fun K2 hK2 => vwp_region hT ?_
  simp
  refine hK2 _ ?_
  try clear hK2 K2
  refine vwp_ret (hR _ _ ?_)
  exact ret_k [6] [0, 1, 2, 3, 4, 5, 6] (lobs g d n ++ [.live [.ptr 0 6 0], .live [.int .i64 h], .live [.int .u32 gen]]) (.fn 61 [.ptr 4 1 0, .ptr 5 1 0, .ptr 6 1 0]) (⟨rfl, rfl⟩)

abbrev lpR (st : LoopState) (ac bd : Code) : Ob := .loop st none 100 [4] [.ptr 8 1 0] #[65, 66] ac bd
/-- What there is while records are gone through. -/
abbrev sobs (st : LoopState) (ac bd : Code) (g : Lg) (d : Dk) (n h gen : Nat) : List Ob := [.live [.ptr 4 6 0], .live [.int .i64 h], .live [.int .u32 gen], lpR st ac bd, .live [.ptr 5 5 0, .int .i64 g.half, .int .u32 g.gen, .sl 7 g.rows.length 1 0 g.rows.length, .int .i64 g.fin, .bool g.broken], .live [.sl 6 d.B.length 32 0 n, .bool d.down, .int .i64 d.fuse, .int .i64 d.torn, .int .i64 d.writes], .live (bts d.B), .live (g.rows.map sB), .live [.ptr 4 6 0]]
theorem stored1_spec (g : Lg) (d : Dk) (n h gen : Nat) (hd : d.ok n) (hbt : byteL d.B) (hh : h ≤ 1) (hg : gen < 4294967296) {ac bd : Code} (rs : List (Nat × List Int)) (hrs : rs = recsL d n h gen)
  (hy : ∀ (i k : Nat) (b : List Int), rs[i]? = some (k, b) → YC P 3 [.int .i64 (k : Int), sB b] (sobs .ready ac bd (g.had (rs.take i)) d n h gen) (fun r ob' => r = .bool true ∧ ob' = sobs .ready ac bd (g.had (rs.take (i + 1))) d n h gen)) : VC P 61 [.yld 3, .ptr 0 1 0, .ptr 1 1 0, .ptr 2 1 0] (sobs .ready ac bd (g.had (rs.take 0)) d n h gen) (fun r ob' => ob' = sobs .ready ac bd (g.had (rs.take rs.length)) d n h gen) := by
  refine VC_of_vwp_k ent_61 Try.func61 rfl (by simp) fun R hR => ?_
  refine vwp_sq [0, 1, 2, 3] fun K1 hK1 => vwp_region hT ?_
  simp
  have hn4 := hd.n4
  have hn2 := hd.n2
  obtain ⟨p, hp⟩ : ∃ p, p = n / 2 := ⟨_, rfl⟩
  have hp2 : p ≤ 2048 := by omega
  have hhp : h * p + p ≤ n := by
    have : h = 0 ∨ h = 1 := by omega
    rcases this with e | e <;> subst e <;> omega
  refine hK1 _ ?_
  try clear hK1 K1
  refine vwp_block ?_
  refine vwp_loop_s (fun u : Nat × Nat × Nat => ⟨[(0, .yld 3), (1, .ptr 0 1 0), (2, .ptr 1 1 0), (3, .ptr 2 1 0), (5, .int .i64 (u.2.1 : Int)), (6, .int .i64 (u.1 : Int))], sobs .ready ac bd (g.had (rs.take u.1)) d n h gen⟩) (fun u => u.1 < u.2.1 ∧ u.2.1 ≤ p + 200 ∧ u.1 ≤ rs.length ∧ ∃ f, recsK d n h gen f u.2.1 u.1 = rs.drop u.1 ∧ p ≤ u.2.1 + f) (fun u => p + 201 - u.2.1) ((0, 1, 0)) (Gh.to_k [0, 1, 2, 3, 5, 6] [0, 1, 2, 3, 4, 5, 6, 7, 8]) (⟨by simp, by dsimp only; omega, by simp, p, by rw [hrs, recsL, hp]; rfl, by dsimp only; omega⟩) ?_
  rintro ⟨i, at_, z⟩ ⟨hia, hat, hi, f, hf, hpf⟩
  dsimp only at hia hat hi hf hpf ⊢
  intro K2 hK2
  refine vwp_seq_k fun K3 hK3 => ?_
  have hps := per_spec (g.had (rs.take i)) d n hn4
  rw [← hp] at hps
  refine vwp_sq [0, 1, 2, 3, 5, 6] fun K4 hK4 => vwp_region hT ?_
  simp
  refine vcall_k [4, 5, 6, 7] (hps) ?_
  rintro r ob' ⟨rfl, rfl⟩
  simp
  refine hK4 _ ?_
  try clear hK4 K4
  refine vwp_cond (by first | rfl | (simp; rfl)) (fun h1 => ?_) fun h1 => ?_
  · simp -failIfUnchanged at h1; all_goals
   have q := h1
   have hap : at_ < p := by omega
   obtain ⟨f1, rfl⟩ : ∃ f1, f = f1 + 1 := ⟨f - 1, by omega⟩
   rw [recsK, if_pos (by rw [← hp]; exact hap)] at hf
   refine vwp_skip ?_
   refine hK3 _ ?_
   try clear hK3 K3
   refine vwp_seq_k fun K5 hK5 => ?_
   refine vwp_block ?_
   have hrd := lread_spec (g.had (rs.take i)) d n hd h at_ (by rw [← hp]; omega)
   obtain ⟨s, hs⟩ : ∃ s, s = d.sector (h * (n / 2) + at_) := ⟨_, rfl⟩
   have hsl : s.length = 32 := by rw [hs]; exact sector_len hd (by rw [← hp]; omega)
   have hsb : byteL s := by rw [hs]; exact sector_byte hbt _
   rw [← hs] at hrd
   refine vwp_sq [0, 1, 2, 3, 5, 6] fun K6 hK6 => vwp_region hT ?_
   simp
   refine vcall_k [4, 5, 6, 7] (hrd) ?_
   rintro r ob' ⟨rfl, rfl⟩
   simp
   refine hK6 _ ?_
   try clear hK6 K6
   refine vwp_gh (Gh.freeze 9 (by rfl) (by intro c hc; simp at hc; obtain ⟨z, _, rfl⟩ := hc; rfl)) ?_
   refine vwp_gh (st' := ⟨[(0, .yld 3), (1, .ptr 0 1 0), (2, .ptr 1 1 0), (3, .ptr 2 1 0), (5, .int .i64 (at_ : Int)), (6, .int .i64 (i : Int)), (7, sB s)], sobs .ready ac bd (g.had (rs.take i)) d n h gen⟩) (Gh.to_k [0, 1, 2, 3, 5, 6, 7] [0, 1, 2, 3, 4, 5, 6, 7, 8] (he := by simp [hsl, List.take_of_length_le]) (hs := by simp [hsl])) ?_
   obtain ⟨q2, hq2⟩ : ∃ q2, q2 = s.take 2 := ⟨_, rfl⟩
   have hq2l : q2.length = 2 := by rw [hq2, List.length_take]; omega
   have hq2b : byteL q2 := by rw [hq2]; exact take_byte hsb 2
   have hq2t : List.take 2 (bts s) = bts q2 := by rw [hq2, ← List.map_take]
   have htl := told_spec q2 (by omega) hq2b
   obtain ⟨long, hlong⟩ : ∃ long, long = tellN q2 := ⟨_, rfl⟩
   have hlongl : long < 4294967296 := by rw [hlong]; exact tell_lt4 hq2b (by omega)
   rw [← hlong] at htl
   have wl : IntKind.i64.wrap (long : Int) = (long : Int) := w64 (by omega) (by omega)
   refine vwp_sq [0, 1, 2, 3, 5, 6, 7] fun K7 hK7 => vwp_region hT ?_
   simp [hq2t, wl]
   repeat refine ⟨by first | assumption | omega | (intros; omega), ?_⟩
   refine vcall_k [] (htl) ?_ (ha := by simp [hq2l])
   rintro r ob' ⟨rfl, rfl⟩
   simp [hq2t, wl]
   repeat refine ⟨by first | assumption | omega | (intros; omega), ?_⟩
   refine hK7 _ ?_
   try clear hK7 K7
   refine vwp_seq_k fun K8 hK8 => ?_
   refine vwp_sq [0, 1, 2, 3, 5, 6, 7, 8] fun K9 hK9 => vwp_region hT ?_
   simp
   refine hK9 _ ?_
   try clear hK9 K9
   refine vwp_cond (by first | rfl | (simp; rfl)) (fun h2 => ?_) fun h2 => ?_
   · simp -failIfUnchanged at h2; all_goals
    have q := h2
    have hone : recOne d n h gen at_ i = none := by
      unfold recOne
      simp only [← hs, ← hq2, ← hlong]
      rw [if_pos (by omega)]
    rw [hone] at hf
    have hnil : rs.drop i = [] := hf.symm
    refine vwp_ret (hR _ _ ?_)
    have hil : rs.length ≤ i := List.drop_eq_nil_iff.1 hnil
    have e : i = rs.length := by omega
    subst e
    exact ret_k [] [0, 1, 2, 3, 4, 5, 6, 7, 8] (sobs .ready ac bd (g.had (rs.take rs.length)) d n h gen) (.tup []) (rfl)
   · simp -failIfUnchanged at h2; all_goals
    have q := h2
    have hl200 : long ≤ 200 := by omega
    refine vwp_skip ?_
    refine hK8 _ ?_
    try clear hK8 K8
    obtain ⟨m0, hm0⟩ : ∃ m0, m0 = min long 17 := ⟨_, rfl⟩
    have wm : (if (17 : Int) < (long : Int) then (17 : Int) else (long : Int)) = (m0 : Int) := by split <;> omega
    have wm2 : (if (long : Int) < (17 : Int) then (long : Int) else (17 : Int)) = (m0 : Int) := by split <;> omega
    obtain ⟨m14, hm14⟩ : ∃ m14, m14 = 14 + m0 := ⟨_, rfl⟩
    have w14 : IntKind.i64.wrap (14 + (m0 : Int)) = (m14 : Int) := (w64 (by omega) (by omega)).trans (by omega)
    have h14 : m14 - 14 = m0 := by omega
    obtain ⟨b0, hb0⟩ : ∃ b0, b0 = (s.drop 14).take m0 := ⟨_, rfl⟩
    have hb0l : b0.length = m0 := by rw [hb0, List.length_take, List.length_drop]; omega
    have hb0t : List.take m0 (List.drop 14 (bts s)) = bts b0 := by rw [hb0, ← List.map_drop, ← List.map_take]
    have hb0b : byteL b0 := fun x hx => hsb x (by rw [hb0] at hx; exact List.mem_of_mem_drop (List.mem_of_mem_take hx))
    have hcl := bclone_u b0 (by omega)
    obtain ⟨G, hG⟩ : ∃ G, G = gatherK d n h at_ long 200 b0 1 := ⟨_, rfl⟩
    refine vwp_sq [0, 1, 2, 3, 5, 6, 7, 8] fun K10 hK10 => vwp_region hT ?_
    simp [wm, wm2, w14, h14, hb0t]
    repeat refine ⟨by first | assumption | omega | (intros; omega), ?_⟩
    refine vcall_k [] (hcl) ?_ (ha := by simp [hb0l])
    rintro r ob' ⟨rfl, rfl⟩
    simp [wm, wm2, w14, h14, hb0t]
    repeat refine ⟨by first | assumption | omega | (intros; omega), ?_⟩
    refine hK10 _ ?_
    try clear hK10 K10
    refine vwp_sq [0, 1, 2, 3, 5, 6, 8, 9] fun K11 hK11 => vwp_region hT ?_
    simp
    refine hK11 _ ?_
    try clear hK11 K11
    refine vwp_cut_s (fun v : List Int × Nat => ⟨[(0, .yld 3), (1, .ptr 0 1 0), (2, .ptr 1 1 0), (3, .ptr 2 1 0), (5, .int .i64 (at_ : Int)), (6, .int .i64 (i : Int)), (8, .int .i64 (long : Int)), (9, .sl 9 v.1.length 1 0 v.1.length), (10, .int .i64 (v.2 : Int))], sobs .ready ac bd (g.had (rs.take i)) d n h gen ++ [.live (bts v.1)]⟩) (fun v => G = (v.1, v.2) ∧ v.1.length = min long (17 + 32 * (v.2 - 1)) ∧ 1 ≤ v.2 ∧ (v.2 = 1 ∨ 17 + 32 * (v.2 - 2) < long) ∧ at_ + v.2 ≤ p ∧ byteL v.1) (fun K12 hK12 => ?_) ?_
    · refine vwp_block ?_
      refine vwp_loop_s (fun v : List Int × Nat => ⟨[(0, .yld 3), (1, .ptr 0 1 0), (2, .ptr 1 1 0), (3, .ptr 2 1 0), (5, .int .i64 (at_ : Int)), (6, .int .i64 (i : Int)), (8, .int .i64 (long : Int)), (9, .sl 9 v.1.length 1 0 v.1.length), (10, .int .i64 (v.2 : Int))], sobs .ready ac bd (g.had (rs.take i)) d n h gen ++ [.live (bts v.1)]⟩) (fun v => (∃ f2, gatherK d n h at_ long f2 v.1 v.2 = G ∧ long - v.1.length ≤ f2) ∧ v.1.length = min long (17 + 32 * (v.2 - 1)) ∧ 1 ≤ v.2 ∧ (v.2 = 1 ∨ 17 + 32 * (v.2 - 2) < long) ∧ at_ + v.2 ≤ p ∧ byteL v.1) (fun v => long - v.1.length) ((b0, 1)) (Gh.to_k [0, 1, 2, 3, 5, 6, 8, 9, 10] [0, 1, 2, 3, 4, 5, 6, 7, 8, 9]) (⟨⟨200, hG.symm, by dsimp only; omega⟩, by dsimp only; omega, by dsimp only; omega, .inl rfl, by dsimp only; omega, hb0b⟩) ?_
      rintro ⟨b, k⟩ ⟨⟨f2, hgf, hf2l⟩, hbl, hk1, hkk, hkp, hbb⟩
      dsimp only at hgf hf2l hbl hk1 hkk hkp hbb ⊢
      intro K13 hK13
      refine vwp_seq_k fun K14 hK14 => ?_
      refine vwp_seq_k fun K15 hK15 => ?_
      by_cases hlt : b.length < long
      · have w1 : IntKind.i64.wrap ((at_ : Int) + (k : Int)) = ((at_ + k : Nat) : Int) := (w64 (by omega) (by omega)).trans (by omega)
        refine vwp_live [0, 1, 2, 3, 5, 6, 8, 9, 10] (vwp_region hT ?_)
        simp [hlt, w1]
        refine vcall_k [4, 5, 6, 7] (hps) ?_
        rintro r ob' ⟨rfl, rfl⟩
        simp [hlt, w1]
        refine hK15 _ ?_
        try clear hK15 K15
        refine vwp_cond (by first | rfl | (simp; rfl)) (fun h3 => ?_) fun h3 => ?_
        · simp -failIfUnchanged at h3; all_goals
         have q := h3
         have hakp : at_ + k < p := by omega
         have hcond : b.length < long ∧ at_ + k < n / 2 := ⟨hlt, by rw [← hp]; exact hakp⟩
         obtain ⟨f3, rfl⟩ : ∃ f3, f2 = f3 + 1 := ⟨f2 - 1, by omega⟩
         rw [gatherK, if_pos hcond] at hgf
         refine vwp_skip ?_
         refine hK14 _ ?_
         try clear hK14 K14
         refine vwp_seq_k fun K16 hK16 => ?_
         refine vwp_block ?_
         obtain ⟨ak, hak⟩ : ∃ ak, ak = at_ + k := ⟨_, rfl⟩
         have hrd2 := lread_spec (g.had (rs.take i)) d n hd h ak (by rw [← hp]; omega)
         obtain ⟨s2, hs2⟩ : ∃ s2, s2 = d.sector (h * (n / 2) + ak) := ⟨_, rfl⟩
         have hs2l : s2.length = 32 := by rw [hs2]; exact sector_len hd (by rw [← hp]; omega)
         have hs2b : byteL s2 := by rw [hs2]; exact sector_byte hbt _
         rw [← hs2] at hrd2
         obtain ⟨m, hm3⟩ : ∃ m, m = min (long - b.length) 32 := ⟨_, rfl⟩
         obtain ⟨c, hc⟩ : ∃ c, c = s2.take m := ⟨_, rfl⟩
         have hcl2 : c.length = m := by rw [hc, List.length_take]; omega
         have hct : List.take m (bts s2) = bts c := by rw [hc, ← List.map_take]
         have hgf2 : gatherK d n h at_ long f3 (b ++ c) (k + 1) = G := by rw [← hgf, hc, hs2, hm3, hak]
         have hbc : byteL (b ++ c) := fun x hx => by
           rcases List.mem_append.1 hx with q | q
           · exact hbb x q
           · rw [hc] at q; exact take_byte hs2b m x q
         have w2 : IntKind.i64.wrap ((at_ : Int) + (k : Int)) = (ak : Int) := (w64 (by omega) (by omega)).trans (by omega)
         have w3 : IntKind.i64.wrap ((long : Int) - (b.length : Int)) = ((long - b.length : Nat) : Int) := (w64 (by omega) (by omega)).trans (by omega)
         obtain ⟨lb, hlb⟩ : ∃ lb, lb = long - b.length := ⟨_, rfl⟩
         rw [← hlb] at w3 hm3
         have w4 : (if (32 : Int) < (lb : Int) then (32 : Int) else (lb : Int)) = (m : Int) := by split <;> omega
         have w5 : (if (lb : Int) < (32 : Int) then (lb : Int) else (32 : Int)) = (m : Int) := by split <;> omega
         refine vwp_live [0, 1, 2, 3, 5, 6, 8, 9, 10] (vwp_region hT ?_)
         simp [w2, w3, w4, w5, hct, hcl2]
         repeat refine ⟨by first | assumption | omega | (intros; omega), ?_⟩
         refine vcall_k [4, 5, 6, 7] (hrd2) ?_
         rintro r ob' ⟨rfl, rfl⟩
         simp [w2, w3, w4, w5, hct, hcl2]
         repeat refine ⟨by first | assumption | omega | (intros; omega), ?_⟩
         refine hK16 _ ?_
         try clear hK16 K16
         have w1 : IntKind.i64.wrap ((k : Int) + 1) = k + 1 := w64 (by omega) (by omega)
         refine vwp_live [0, 1, 2, 3, 5, 6, 8, 9, 10] (vwp_region hT ?_)
         simp [w1]
         exact hK13 ((b ++ c, k + 1)) _ (Gh.to_k [0, 1, 2, 3, 5, 6, 8, 9, 10] [0, 1, 2, 3, 4, 5, 6, 7, 8, 9] (he := by simp [hcl2])) (⟨⟨f3, hgf2, by dsimp only; rw [List.length_append]; omega⟩, by dsimp only; rw [List.length_append]; omega, by dsimp only; omega, by dsimp only; omega, by dsimp only; omega, hbc⟩) (by dsimp only; rw [List.length_append]; omega)
        · simp -failIfUnchanged at h3; all_goals
         have q := h3
         have hgat : G = (b, k) := by rw [← hgf]; exact gatherK_end (by rw [← hp]; omega) f2
         refine vwp_exit ?_
         simp only [inBlk, thenQ, if_true]
         exact hK12 ((b, k)) _ (Gh.to_k [0, 1, 2, 3, 5, 6, 8, 9, 10] [0, 1, 2, 3, 4, 5, 6, 7, 8, 9]) (⟨hgat, hbl, hk1, hkk, hkp, hbb⟩)
      · have hgat : G = (b, k) := by rw [← hgf]; exact gatherK_end (fun hh => hlt hh.1) f2
        refine vwp_live [0, 1, 2, 3, 5, 6, 8, 9, 10] (vwp_region hT ?_)
        simp [hlt]
        refine hK15 _ ?_
        try clear hK15 K15
        refine vwp_cond (by first | rfl | (simp; rfl)) (fun h4 => ?_) fun h4 => ?_
        · simp -failIfUnchanged at h4; all_goals
         refine vwp_skip ?_
         refine hK14 _ ?_
         try clear hK14 K14
         refine vwp_seq_k fun K17 hK17 => ?_
         refine vwp_block ?_
         skip
        · simp -failIfUnchanged at h4; all_goals
         refine vwp_exit ?_
         simp only [inBlk, thenQ, if_true]
         exact hK12 ((b, k)) _ (Gh.to_k [0, 1, 2, 3, 5, 6, 8, 9, 10] [0, 1, 2, 3, 4, 5, 6, 7, 8, 9]) (⟨hgat, hbl, hk1, hkk, hkp, hbb⟩)
    · rintro ⟨b, k⟩ ⟨hgat, hbl, hk1, hkk, hkp, hbb⟩
      dsimp only at hgat hbl hk1 hkk hkp hbb ⊢
      refine vwp_seq_k fun K18 hK18 => ?_
      refine vwp_seq_k fun K19 hK19 => ?_
      have hone : recOne d n h gen at_ i = if b.length < long then none else if standB d n h at_ (secL b gen i) = true then some (k, b) else none := by
        unfold recOne
        simp only [← hs, ← hq2, ← hlong]
        rw [if_neg (by omega), ← hm0, ← hb0, ← hG, hgat]
      rw [hone] at hf
      by_cases hlt : b.length < long
      · rw [if_pos hlt] at hf
        have hnil : rs.drop i = [] := hf.symm
        refine vwp_gh (Gh.freeze 9 (by rfl) (by intro c hc; simp at hc; obtain ⟨z, _, rfl⟩ := hc; rfl)) ?_
        refine vwp_gh (st' := ⟨[(0, .yld 3), (1, .ptr 0 1 0), (2, .ptr 1 1 0), (3, .ptr 2 1 0), (5, .int .i64 (at_ : Int)), (6, .int .i64 (i : Int)), (8, .int .i64 (long : Int)), (9, sB b), (10, .int .i64 (k : Int))], sobs .ready ac bd (g.had (rs.take i)) d n h gen⟩) (Gh.to_k [0, 1, 2, 3, 5, 6, 8, 9, 10] [0, 1, 2, 3, 4, 5, 6, 7, 8] (he := by simp [hbl, List.take_of_length_le]) (hs := by simp [hbl])) ?_
        refine vwp_live [0, 1, 2, 3, 5, 6, 8, 9, 10] (vwp_stormY hT hm [.pure, .win 0 0, .pure, .win 0 0, .pure, .off, .off, .off, .off, .off, .off, .off, .off, .off, .pure, .pure, .off, .off, .off, .off, .off, .pure] [[], [0], [], [0, 1, 2], [0, 1, 2, 3], [0, 1, 2, 3, 4], [0, 1, 2, 3, 4], [0, 1, 2, 3, 4], [0, 1, 2, 3, 4], [0, 1, 2, 3, 4], [0, 1, 2, 3, 4], [0, 1, 2, 3, 4, 8, 9, 10], [0, 1, 2, 3, 4, 5, 6, 7, 8, 9, 10, 11], [0, 1, 2, 3, 4, 5, 6, 7, 8, 9, 10, 11, 12], [0, 1, 2, 3, 4, 5, 6, 7, 8, 9, 10, 11, 12, 13], [0, 1, 2, 3, 4, 5, 6, 7, 8, 9, 10, 11, 12, 13, 14], [0, 1, 2, 3, 4, 5, 6, 7, 8, 9, 10, 11, 12, 13, 14, 15], [0, 1, 2, 3, 4, 5, 6, 7, 8, 9, 10, 11, 12, 13, 14, 15], [0, 1, 2, 3, 4, 5, 6, 7, 8, 9, 10, 11, 12, 13, 14, 15], [0, 1, 2, 3, 4, 5, 6, 7, 8, 9, 10, 11, 12, 13, 14, 15, 16, 17, 18], [0, 1, 2, 3, 4, 5, 6, 7, 8, 9, 10, 11, 12, 13, 14, 15, 16, 17, 18, 19], [0, 1, 2, 3, 4, 5, 6, 7, 8, 9, 10, 11, 12, 13, 14, 15, 16, 17, 18, 19, 20]] (by kernel_rfl) ?_)
        simp [hlt]
        refine hK19 _ ?_
        try clear hK19 K19
        refine vwp_cond (by first | rfl | (simp; rfl)) (fun h5 => ?_) fun h5 => ?_
        · simp -failIfUnchanged at h5; all_goals
         refine vwp_ret (hR _ _ ?_)
         have hil : rs.length ≤ i := List.drop_eq_nil_iff.1 hnil
         have e : i = rs.length := by omega
         subst e
         exact ret_k [] [0, 1, 2, 3, 4, 5, 6, 7, 8] (sobs .ready ac bd (g.had (rs.take rs.length)) d n h gen) (.tup []) (rfl)
        · simp -failIfUnchanged at h5; all_goals
         refine vwp_skip ?_
         refine hK18 _ ?_
         try clear hK18 K18
         simp at *
      · rw [if_neg hlt] at hf
        have hblen : b.length = long := by omega
        have hsec : (secL b gen i).length = k := secL_len (by omega) (by omega) hk1
        have hirs : i < 4294967296 := by omega
        have hss := sectors2_spec b gen i (by omega) hbb hg hirs
        obtain ⟨W, hW⟩ : ∃ W, W = secL b gen i := ⟨_, rfl⟩
        have hst := stand_spec (g.had (rs.take i)) d n hd h at_ W (by rw [← hp, hW, hsec]; omega) (by rw [hW]; exact secL_32)
        rw [← hW] at hf hss hsec
        obtain ⟨st, hste⟩ : ∃ st, st = standB d n h at_ W := ⟨_, rfl⟩
        rw [← hste] at hst hf
        rcases st with _ | _
        · rw [if_neg (by simp)] at hf
          have hnil : rs.drop i = [] := hf.symm
          refine vwp_gh (Gh.freeze 9 (by rfl) (by intro c hc; simp at hc; obtain ⟨z, _, rfl⟩ := hc; rfl)) ?_
          refine vwp_gh (st' := ⟨[(0, .yld 3), (1, .ptr 0 1 0), (2, .ptr 1 1 0), (3, .ptr 2 1 0), (5, .int .i64 (at_ : Int)), (6, .int .i64 (i : Int)), (8, .int .i64 (long : Int)), (9, sB b), (10, .int .i64 (k : Int))], sobs .ready ac bd (g.had (rs.take i)) d n h gen⟩) (Gh.to_k [0, 1, 2, 3, 5, 6, 8, 9, 10] [0, 1, 2, 3, 4, 5, 6, 7, 8] (he := by simp [hbl, List.take_of_length_le]) (hs := by simp [hbl])) ?_
          refine vwp_live [0, 1, 2, 3, 5, 6, 8, 9, 10] (vwp_stormY hT hm [.pure, .win 0 0, .pure, .win 0 0, .pure, .win 0 1, .win 0 1, .pure, .pure, .win 0 0, .pure, .mv, .mv, .pure, .pure, .pure, .off, .off, .off, .off, .off, .pure] [[], [0], [], [0, 1, 2], [0, 1, 2, 3], [0, 1, 2, 3, 4], [0, 1, 2, 3, 4], [0, 1, 2, 3, 4], [0, 1, 2, 3, 4], [0, 1, 2, 3, 4], [0, 1, 2, 3, 4], [0, 1, 2, 3, 4, 8, 9, 10], [0, 1, 2, 3, 4, 5, 6, 7, 8, 9, 10, 11], [0, 1, 2, 3, 4, 5, 6, 7, 8, 9, 10, 11, 12], [0, 1, 2, 3, 4, 5, 6, 7, 8, 9, 10, 11, 12, 13], [0, 1, 2, 3, 4, 5, 6, 7, 8, 9, 10, 11, 12, 13, 14], [0, 1, 2, 3, 4, 5, 6, 7, 8, 9, 10, 11, 12, 13, 14, 15], [0, 1, 2, 3, 4, 5, 6, 7, 8, 9, 10, 11, 12, 13, 14, 15], [0, 1, 2, 3, 4, 5, 6, 7, 8, 9, 10, 11, 12, 13, 14, 15], [0, 1, 2, 3, 4, 5, 6, 7, 8, 9, 10, 11, 12, 13, 14, 15, 16, 17, 18], [0, 1, 2, 3, 4, 5, 6, 7, 8, 9, 10, 11, 12, 13, 14, 15, 16, 17, 18, 19], [0, 1, 2, 3, 4, 5, 6, 7, 8, 9, 10, 11, 12, 13, 14, 15, 16, 17, 18, 19, 20]] (by kernel_rfl) ?_)
          simp [hlt]
          refine ⟨.sl 9 W.length 1 0 W.length, sobs .ready ac bd (g.had (rs.take i)) d n h gen ++ [.live (W.map sB)], fun sl => ?_, ?_⟩
          · refine vcall_k [] (hss) ?_
            rintro r ob' ⟨rfl, rfl⟩
            simp
          simp [hlt]
          refine ⟨.bool false, sobs .ready ac bd (g.had (rs.take i)) d n h gen ++ [.frz (W.map sB)], fun sl => ?_, ?_⟩
          · refine vcall_freeze 9 (by rfl) (by intro c hc; simp at hc; obtain ⟨z, _, rfl⟩ := hc; rfl) ?_
            refine vcall_k [4, 5, 6, 7] (hst) ?_
            rintro r ob' ⟨rfl, rfl⟩
            simp
          simp [hlt]
          refine hK19 _ ?_
          try clear hK19 K19
          refine vwp_cond (by first | rfl | (simp; rfl)) (fun h6 => ?_) fun h6 => ?_
          · simp -failIfUnchanged at h6; all_goals
           refine vwp_ret (hR _ _ ?_)
           have hil : rs.length ≤ i := List.drop_eq_nil_iff.1 hnil
           have e : i = rs.length := by omega
           subst e
           exact ret_k [] [0, 1, 2, 3, 4, 5, 6, 7, 8] (sobs .ready ac bd (g.had (rs.take rs.length)) d n h gen) (.tup []) (rfl)
          · simp -failIfUnchanged at h6; all_goals
           refine vwp_skip ?_
           refine hK18 _ ?_
           try clear hK18 K18
           simp at *
        · rw [if_pos rfl] at hf
          obtain ⟨hget, hf2⟩ := drop_cons hf.symm
          have hirl := (List.getElem?_eq_some_iff.1 hget).1
          refine vwp_gh (Gh.freeze 9 (by rfl) (by intro c hc; simp at hc; obtain ⟨z, _, rfl⟩ := hc; rfl)) ?_
          refine vwp_gh (st' := ⟨[(0, .yld 3), (1, .ptr 0 1 0), (2, .ptr 1 1 0), (3, .ptr 2 1 0), (5, .int .i64 (at_ : Int)), (6, .int .i64 (i : Int)), (8, .int .i64 (long : Int)), (9, sB b), (10, .int .i64 (k : Int))], sobs .ready ac bd (g.had (rs.take i)) d n h gen⟩) (Gh.to_k [0, 1, 2, 3, 5, 6, 8, 9, 10] [0, 1, 2, 3, 4, 5, 6, 7, 8] (he := by simp [hbl, List.take_of_length_le]) (hs := by simp [hbl])) ?_
          refine vwp_live [0, 1, 2, 3, 5, 6, 8, 9, 10] (vwp_stormY hT hm [.pure, .win 0 0, .pure, .win 0 0, .pure, .win 0 1, .win 0 1, .pure, .pure, .win 0 0, .pure, .mv, .mv, .pure, .pure, .pure, .pure, .pure, .pure, .mv, .pure, .pure] [[], [0], [], [0, 1, 2], [0, 1, 2, 3], [0, 1, 2, 3, 4], [0, 1, 2, 3, 4], [0, 1, 2, 3, 4], [0, 1, 2, 3, 4], [0, 1, 2, 3, 4], [0, 1, 2, 3, 4], [0, 1, 2, 3, 4, 8, 9, 10], [0, 1, 2, 3, 4, 5, 6, 7, 8, 9, 10, 11], [0, 1, 2, 3, 4, 5, 6, 7, 8, 9, 10, 11, 12], [0, 1, 2, 3, 4, 5, 6, 7, 8, 9, 10, 11, 12, 13], [0, 1, 2, 3, 4, 5, 6, 7, 8, 9, 10, 11, 12, 13, 14], [0, 1, 2, 3, 4, 5, 6, 7, 8, 9, 10, 11, 12, 13, 14, 15], [0, 1, 2, 3, 4, 5, 6, 7, 8, 9, 10, 11, 12, 13, 14, 15], [0, 1, 2, 3, 4, 5, 6, 7, 8, 9, 10, 11, 12, 13, 14, 15], [0, 1, 2, 3, 4, 5, 6, 7, 8, 9, 10, 11, 12, 13, 14, 15, 16, 17, 18], [0, 1, 2, 3, 4, 5, 6, 7, 8, 9, 10, 11, 12, 13, 14, 15, 16, 17, 18, 19], [0, 1, 2, 3, 4, 5, 6, 7, 8, 9, 10, 11, 12, 13, 14, 15, 16, 17, 18, 19, 20]] (by kernel_rfl) ?_)
          simp [hlt]
          refine ⟨.sl 9 W.length 1 0 W.length, sobs .ready ac bd (g.had (rs.take i)) d n h gen ++ [.live (W.map sB)], fun sl => ?_, ?_⟩
          · refine vcall_k [] (hss) ?_
            rintro r ob' ⟨rfl, rfl⟩
            simp
          simp [hlt]
          refine ⟨.bool true, sobs .ready ac bd (g.had (rs.take i)) d n h gen ++ [.frz (W.map sB)], fun sl => ?_, ?_⟩
          · refine vcall_freeze 9 (by rfl) (by intro c hc; simp at hc; obtain ⟨z, _, rfl⟩ := hc; rfl) ?_
            refine vcall_k [4, 5, 6, 7] (hst) ?_
            rintro r ob' ⟨rfl, rfl⟩
            simp
          simp [hlt]
          refine ⟨.bool true, sobs .ready ac bd (g.had (rs.take (i + 1))) d n h gen ++ [.frz (W.map sB)], fun sl => ?_, ?_⟩
          · refine ycall_of_YC [0, 1, 2, 3, 4, 5, 6, 7, 8] 3 (hy i k b hget) ?_
            rintro r ob' ⟨rfl, rfl⟩
            simp
          simp [hlt]
          refine hK19 _ ?_
          try clear hK19 K19
          refine vwp_cond (by first | rfl | (simp; rfl)) (fun h7 => ?_) fun h7 => ?_
          · simp -failIfUnchanged at h7; all_goals
           refine vwp_ret (hR _ _ ?_)
           simp at *
          · simp -failIfUnchanged at h7; all_goals
           refine vwp_skip ?_
           refine hK18 _ ?_
           try clear hK18 K18
           have w1 : IntKind.i64.wrap ((at_ : Int) + (k : Int)) = ((at_ + k : Nat) : Int) := (w64 (by omega) (by omega)).trans (by omega)
           refine vwp_live [0, 1, 2, 3, 5, 6, 10] (vwp_region hT ?_)
           simp [w1]
           refine hK5 _ ?_
           try clear hK5 K5
           have w1 : IntKind.i64.wrap ((i : Int) + 1) = i + 1 := w64 (by omega) (by omega)
           refine vwp_live [0, 1, 2, 3, 5, 6] (vwp_region hT ?_)
           simp [w1]
           exact hK2 ((i + 1, at_ + k, 0)) _ (Gh.to_k [0, 1, 2, 3, 5, 6] [0, 1, 2, 3, 4, 5, 6, 7, 8]) (⟨by dsimp only; omega, by dsimp only; omega, by dsimp only; omega, f1, hf2.symm, by dsimp only; omega⟩) (by dsimp only; omega)
  · simp -failIfUnchanged at h1; all_goals
   have q := h1
   have hnil : rs.drop i = [] := by
     rw [← hf]
     cases f with
     | zero => rfl
     | succ f => rw [recsK, if_neg (by rw [← hp]; omega)]
   refine vwp_exit ?_
   simp only [inBlk, thenQ, if_true]
   refine hR _ _ ?_
   have hil : rs.length ≤ i := List.drop_eq_nil_iff.1 hnil
   have e : i = rs.length := by omega
   subst e
   exact norm_k [] [0, 1, 2, 3, 4, 5, 6, 7, 8] (sobs .ready ac bd (g.had (rs.take rs.length)) d n h gen) (.tup []) (rfl)
end Go.Proofs.Ytifhbgppjblobaa
