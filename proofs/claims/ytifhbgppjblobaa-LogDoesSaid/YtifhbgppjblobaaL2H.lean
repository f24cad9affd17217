/- The document's answers: wiping and laying. -/
import Derived.Test.YtifhbgppjblobaaL2G
namespace Go.Proofs.Ytifhbgppjblobaa
open Go Go.VX Go.RowKit
set_option linter.unusedVariables false
set_option linter.unusedSimpArgs false
set_option maxHeartbeats 20000000
set_option maxRecDepth 100000
theorem wipe_ref (g : Lg) (d : Dk) (n : Nat) (hd : d.ok n) (hbt : byteL d.B) (h down : Nat) (hh : h ≤ 1) (hdn : down ≤ n / 2) : VC P 52 [.ptr 0 5 0, .int .i64 h, .int .i64 down] d.robs (fun r ob' => r = .int .i64 (wipeK n h down (n / 2 - down) g d).1 ∧ ob' = (wipeK n h down (n / 2 - down) g d).2.2.robs) := by
  refine VC_of_vwp_k ent_52 Try.func52 rfl (by simp) fun R hR => ?_
  refine vwp_sq [0, 1, 2] fun K1 hK1 => vwp_region hT ?_
  simp [Dk.robs]
  refine hK1 _ ?_
  try clear hK1 K1
  refine vwp_seq_k fun K2 hK2 => ?_
  have hn4 := hd.n4
  have hn2 := hd.n2
  have hps := per_ref d n hd
  obtain ⟨p, hp⟩ : ∃ p, p = n / 2 := ⟨_, rfl⟩
  rw [← hp] at hps hdn
  have hhp : h * p + p ≤ n := by
    have : h = 0 ∨ h = 1 := by omega
    rcases this with e | e <;> rw [e] <;> omega
  obtain ⟨hpv, hhpv⟩ : ∃ hpv, hpv = h * p := ⟨_, rfl⟩
  have wh1 : IntKind.i64.wrap ((h : Int) * (p : Int)) = (hpv : Int) := by rw [hhpv, ← Int.natCast_mul]; exact w64 (by omega) (by omega)
  have w1 : IntKind.i64.wrap ((p : Int) - 1) = (p : Int) - 1 := w64 (by omega) (by omega)
  obtain ⟨tot, htot⟩ : ∃ tot, tot = p - down := ⟨_, rfl⟩
  obtain ⟨res, hres⟩ : ∃ res, res = wipeK n h down tot g d := ⟨_, rfl⟩
  refine vwp_sq [0, 1, 2] fun K3 hK3 => vwp_region hT ?_
  simp [Dk.robs, w1]
  refine vcall_k [0, 1] (hps) ?_ (hh := by simp [Dk.robs])
  rintro r ob' ⟨rfl, rfl⟩
  simp [Dk.robs, w1]
  refine hK3 _ ?_
  try clear hK3 K3
  refine vwp_block ?_
  refine vwp_loop_s (fun u : Nat × Lg × Dk => ⟨[(0, .ptr 0 5 0), (1, .int .i64 h), (2, .int .i64 down), (7, .int .i64 ((down : Int) + u.1 - 1))], [.live [.sl 1 u.2.2.B.length 1 0 u.2.2.B.length, .bool u.2.2.down, .int .i64 u.2.2.fuse, .int .i64 u.2.2.torn, .int .i64 u.2.2.writes], .live (bts u.2.2.B)]⟩) (fun u => u.1 ≤ tot ∧ u.2.2.ok n ∧ byteL u.2.2.B ∧ wipeK n h down u.1 u.2.1 u.2.2 = res) (fun u => u.1) ((tot, g, d)) (Gh.to_k [0, 1, 2, 7] [0, 1] (he := by simp; omega) (hh := by simp [Dk.robs])) (⟨Nat.le_refl _, hd, hbt, hres.symm⟩) ?_
  clear hps
  rintro ⟨k, g2, d2⟩ ⟨hk, hd2, hbt2, hw⟩
  dsimp only at hk hd2 hbt2 hw ⊢
  intro K4 hK4
  refine vwp_seq_k fun K5 hK5 => ?_
  refine vwp_sq [0, 1, 2, 7] fun K6 hK6 => vwp_region hT ?_
  simp [Dk.robs]
  refine hK6 _ ?_
  try clear hK6 K6
  refine vwp_cond (by first | rfl | (simp; rfl)) (fun h1 => ?_) fun h1 => ?_
  · simp -failIfUnchanged at h1; all_goals
   have q := h1
   obtain ⟨k1, rfl⟩ : ∃ k1, k = k1 + 1 := ⟨k - 1, by omega⟩
   refine vwp_skip ?_
   refine hK5 _ ?_
   try clear hK5 K5
   refine vwp_seq_k fun K7 hK7 => ?_
   refine vwp_block ?_
   have hl := hd2.len
   have hhf := half_ref d2 n hd2 h hh
   obtain ⟨LB, hLB⟩ : ∃ LB, LB = d2.B.length := ⟨_, rfl⟩
   have hLBe := hLB.symm
   rw [← hLB] at hl
   obtain ⟨m, hm1⟩ : ∃ m, m = 32 * p := ⟨_, rfl⟩
   obtain ⟨o, ho⟩ : ∃ o, o = h * m := ⟨_, rfl⟩
   rw [← hp, ← hm1, ← ho, ← hLB] at hhf
   have hop : o = h * p * 32 := by rw [ho, hm1, Nat.mul_left_comm, Nat.mul_comm 32]
   rw [← hhpv] at hop
   obtain ⟨dk, hdk⟩ : ∃ dk, dk = down + k1 := ⟨_, rfl⟩
   have hat2 : (down : Int) + ((k1 : Int) + 1) - 1 = (dk : Int) := by omega
   obtain ⟨ix, hix⟩ : ∃ ix, ix = hpv + dk := ⟨_, rfl⟩
   have hixn : ix < n := by omega
   have hixe : h * (n / 2) + (down + k1) = ix := by rw [← hp, ← hhpv, hix, hdk]
   rw [wipeK, hixe] at hw
   obtain ⟨s, hs⟩ : ∃ s, s = d2.sector ix := ⟨_, rfl⟩
   have hsl : s.length = 32 := by rw [hs]; exact sector_len hd2 hixn
   rw [← hs] at hw
   obtain ⟨a0, ha0⟩ : ∃ a0, a0 = 32 * dk := ⟨_, rfl⟩
   have hoa : o + a0 = ix * 32 := by omega
   have hst : List.take 32 (List.drop (o + a0) (bts d2.B)) = bts s := by rw [hs, Dk.sector, hoa, ← List.map_drop, ← List.map_take]
   have hzs := zero_ref s (by omega)
   have v1 : IntKind.i64.wrap (32 * (dk : Int)) = (a0 : Int) := (w64 (by omega) (by omega)).trans (by omega)
   have v2 : IntKind.i64.wrap ((a0 : Int) + 32) = ((a0 + 32 : Nat) : Int) := w64 (by omega) (by omega)
   have v3 : ((a0 : Int) + 32).toNat - a0 = 32 := by omega
   try rw [← hLB]
   refine vwp_sq [0, 1, 2, 7] fun K8 hK8 => vwp_region hT ?_
   simp [Dk.robs, ← hLB]
   refine vcall_k [0, 1] (hhf) ?_ (hh := by simp [Dk.robs, hLB])
   rintro r ob' ⟨rfl, rfl⟩
   simp [Dk.robs, ← hLB]
   refine hK8 _ ?_
   try clear hK8 K8
   refine vwp_seq_k fun K9 hK9 => ?_
   refine vwp_sq [0, 1, 2, 7, 8] fun K10 hK10 => vwp_region hT ?_
   simp [Dk.robs, hat2, v1, v2, v3]
   repeat refine ⟨by first | assumption | omega | (intros; omega), ?_⟩
   refine vcall_z [] (hzs) (by rintro r ob' ⟨rfl, rfl⟩; simp) ?_ (ha := by simp [hst, hsl]) (hok := by simp [hLBe])
   rintro r ob' ⟨rfl, rfl⟩
   simp [Dk.robs, hat2, v1, v2, v3]
   repeat refine ⟨by first | assumption | omega | (intros; omega), ?_⟩
   refine hK10 _ ?_
   try clear hK10 K10
   refine vwp_cond (by first | rfl | (simp; rfl)) (fun h2 => ?_) fun h2 => ?_
   · simp -failIfUnchanged at h2; all_goals
    have hbl : blankB s = true := by simpa using h2
    rw [if_pos hbl] at hw
    refine vwp_exit ?_
    simp only [inBlk, thenQ, if_true]
    refine hK7 _ ?_
    try clear hK7 K7
    have w1 : IntKind.i64.wrap ((dk : Int) - 1) = (dk : Int) - 1 := w64 (by omega) (by omega)
    refine vwp_live [0, 1, 2, 7] (vwp_region hT ?_)
    simp [Dk.robs, hat2, w1]
    exact hK4 (k1, g2, d2) _ (Gh.to_k [0, 1, 2, 7] [0, 1] (he := by simp; omega) (hh := by simp [hLBe])) (⟨by dsimp only; omega, hd2, hbt2, hw⟩) (by dsimp only; omega)
   · simp -failIfUnchanged at h2; all_goals
    have hbl : ¬ blankB s = true := by simpa using h2
    rw [if_neg hbl] at hw
    refine vwp_skip ?_
    refine hK9 _ ?_
    try clear hK9 K9
    have hps := per_ref d2 n hd2
    rw [← hp] at hps
    have hws := rwrite_spec d2 n hd2 (ix : Int) []
    have hbw := write_byte (n := n) (a := (ix : Int)) hbt2 [] byteL_nil
    obtain ⟨we, hwe⟩ : ∃ we, we = (d2.write n (ix : Int) []).1 := ⟨_, rfl⟩
    obtain ⟨d3, hd3e⟩ : ∃ d3, d3 = (d2.write n (ix : Int) []).2 := ⟨_, rfl⟩
    have hd3 : d3.ok n := by rw [hd3e]; exact write_ok hd2 _ _
    rw [← hd3e] at hbw
    rw [← hwe, ← hd3e] at hws hw
    have hbt3 := hbw
    have v4 : IntKind.i64.wrap ((hpv : Int) + (dk : Int)) = (ix : Int) := (w64 (by omega) (by omega)).trans (by omega)
    refine vwp_sq [0, 1, 2, 7] fun K11 hK11 => vwp_region hT ?_
    simp [Dk.robs, hat2, wh1, v4]
    refine vcall_k [0, 1] (hps) ?_ (hh := by simp [Dk.robs, hLB])
    rintro r ob' ⟨rfl, rfl⟩
    simp [Dk.robs, hat2, wh1, v4]
    refine vcall_freeze 2 (by rfl) (by simp) ?_
    refine vcall_k [0, 1] (hws) ?_ (hh := by simp [Dk.robs, hLB]) (ha := by simp) (hok := by simp)
    rintro r ob' ⟨rfl, rfl⟩
    simp [Dk.robs, hat2, wh1, v4]
    refine hK11 _ ?_
    try clear hK11 K11
    refine vwp_sq [0, 1, 2, 7, 9] fun K12 hK12 => vwp_region hT ?_
    simp [Dk.robs]
    refine hK12 _ ?_
    try clear hK12 K12
    refine vwp_cond (by first | rfl | (simp; rfl)) (fun h3 => ?_) fun h3 => ?_
    · simp -failIfUnchanged at h3; all_goals
     have he0 : ¬ we = 0 := by simpa using h3
     rw [if_neg he0] at hw
     refine vwp_sq [9] fun K13 hK13 => vwp_region hT ?_
     simp [Dk.robs]
     refine hK13 _ ?_
     try clear hK13 K13
     refine vwp_ret (hR _ _ ?_)
     rw [← hp, ← htot, ← hres, ← hw]
     exact ret_k [6] [0, 1] (d3.robs) (.int .i64 we) (⟨rfl, rfl⟩) (hh := by simp [Dk.robs])
    · simp -failIfUnchanged at h3; all_goals
     have he0 : we = 0 := by simpa using h3
     rw [if_pos he0] at hw
     subst he0
     obtain ⟨g3, hg3⟩ : ∃ g3, g3 = g2.wrote 0 := ⟨_, rfl⟩
     have hw3 : wipeK n h down k1 g3 d3 = res := by rw [hg3]; exact hw
     refine vwp_skip ?_
     refine hK7 _ ?_
     try clear hK7 K7
     have w1 : IntKind.i64.wrap ((dk : Int) - 1) = (dk : Int) - 1 := w64 (by omega) (by omega)
     refine vwp_live [0, 1, 2, 7] (vwp_region hT ?_)
     simp [Dk.robs, hat2, w1]
     exact hK4 ((k1, g3, d3)) _ (Gh.to_k [0, 1, 2, 7] [0, 1] (he := by simp; omega)) (⟨by dsimp only; omega, hd3, hbt3, hw3⟩) (by dsimp only; omega)
  · simp -failIfUnchanged at h1; all_goals
   have q := h1
   have hk0 : k = 0 := by omega
   rw [hk0, wipeK] at hw
   refine vwp_exit ?_
   simp only [inBlk, thenQ, if_true]
   refine hK2 _ ?_
   try clear hK2 K2
   refine vwp_sq [] fun K14 hK14 => vwp_region hT ?_
   simp [Dk.robs]
   refine hK14 _ ?_
   try clear hK14 K14
   refine vwp_ret (hR _ _ ?_)
   rw [← hp, ← htot, ← hres, ← hw]
   exact ret_k [6] [0, 1] (d2.robs) (.int .i64 0) (⟨rfl, rfl⟩) (hh := by simp [Dk.robs])

theorem pad_pad {w : List Int} (h : w.length ≤ 32) : pad (pad w) = pad w := by
  have := pad_length h
  rw [show pad (pad w) = pad w ++ List.replicate (32 - (pad w).length) 0 from rfl, this]
  simp
theorem write_pad {d : Dk} {n : Nat} {a : Int} {w : List Int} (h : w.length ≤ 32) : d.write n a (pad w) = d.write n a w := by
  unfold Dk.write
  rw [pad_pad h, pad_length h, if_neg (show ¬ 32 < w.length by omega), if_neg (show ¬ 32 < 32 by omega)]
theorem pads_len : ∀ {ss : List (List Int)}, (∀ w ∈ ss, w.length ≤ 32) → (ss.map pad).flatten.length = 32 * ss.length
  | [], _ => rfl
  | w :: ss, h => by
    rw [List.map_cons, List.flatten_cons, List.length_append, pad_length (h w (List.mem_cons_self ..)), pads_len fun x hx => h x (List.mem_cons_of_mem _ hx), List.length_cons]
    omega
theorem pads_at : ∀ {ss : List (List Int)} {k : Nat} {w : List Int}, (∀ w ∈ ss, w.length ≤ 32) → ss[k]? = some w → ((ss.map pad).flatten.drop (32 * k)).take 32 = pad w
  | [], k, w, _, h => by simp at h
  | v :: ss, 0, w, h32, h => by
    simp only [List.getElem?_cons_zero, Option.some.injEq] at h
    subst h
    have hl := pad_length (h32 v (List.mem_cons_self ..))
    rw [List.map_cons, List.flatten_cons, Nat.mul_zero, List.drop_zero, List.take_left' hl]
  | v :: ss, k + 1, w, h32, h => by
    have hl := pad_length (h32 v (List.mem_cons_self ..))
    rw [List.map_cons, List.flatten_cons, show 32 * (k + 1) = 32 + 32 * k by omega, ← List.drop_drop, List.drop_left' hl]
    exact pads_at (fun x hx => h32 x (List.mem_cons_of_mem _ hx)) (by simpa using h)
theorem lay_ref (g : Lg) (d : Dk) (n : Nat) (hd : d.ok n) (h at_ : Nat) (hh : h ≤ 1) (ss : List (List Int)) (hix : at_ + ss.length ≤ n / 2) (h32 : ∀ w ∈ ss, w.length ≤ 32) : VC P 54 [.ptr 0 5 0, .int .i64 h, .int .i64 at_, sB (ss.map pad).flatten] d.robs (fun r ob' => r = .int .i64 (layK n h at_ ss ss.length g d).1 ∧ ob' = (layK n h at_ ss ss.length g d).2.2.robs) := by
  refine VC_of_vwp_k ent_54 Try.func54 rfl (by simp) fun R hR => ?_
  refine vwp_sq [0, 1, 2, 3] fun K1 hK1 => vwp_region hT ?_
  simp [Dk.robs]
  refine hK1 _ ?_
  try clear hK1 K1
  have hn4 := hd.n4
  have hn2 := hd.n2
  obtain ⟨p, hp⟩ : ∃ p, p = n / 2 := ⟨_, rfl⟩
  rw [← hp] at hix
  have hhp : h * p + p ≤ n := by
    have : h = 0 ∨ h = 1 := by omega
    rcases this with e | e <;> rw [e] <;> omega
  obtain ⟨hpv, hhpv⟩ : ∃ hpv, hpv = h * p := ⟨_, rfl⟩
  have wh1 : IntKind.i64.wrap ((h : Int) * (p : Int)) = (hpv : Int) := by rw [hhpv, ← Int.natCast_mul]; exact w64 (by omega) (by omega)
  obtain ⟨res, hres⟩ : ∃ res, res = layK n h at_ ss ss.length g d := ⟨_, rfl⟩
  have hSl := pads_len h32
  have hSk := fun k w => pads_at (k := k) (w := w) h32
  obtain ⟨S, hS⟩ : ∃ S, S = (ss.map pad).flatten := ⟨_, rfl⟩
  rw [← hS] at hSl hSk
  obtain ⟨L, hL⟩ : ∃ L, L = ss.length := ⟨_, rfl⟩
  rw [← hL] at hSl hix
  obtain ⟨SL, hSL⟩ : ∃ SL, SL = S.length := ⟨_, rfl⟩
  rw [← hSL] at hSl
  have hSLe := hSL.symm
  have hLd : L = SL / 32 := by omega
  have t1 : (SL : Int).tdiv 32 = (L : Int) := by rw [hLd]; rfl
  have t2 : IntKind.i64.wrap (L : Int) = (L : Int) := w64 (by omega) (by omega)
  try rw [← hS]
  try rw [← hSL]
  refine vwp_sq [0, 1, 2, 3] fun K2 hK2 => vwp_region hT ?_
  simp [Dk.robs, ← hS, ← hSL, t1, t2]
  repeat refine ⟨by first | assumption | omega | (intros; omega), ?_⟩
  refine hK2 _ ?_
  try clear hK2 K2
  refine vwp_seq_k fun K3 hK3 => ?_
  refine vwp_sq [0, 1, 2, 3, 9] fun K4 hK4 => vwp_region hT ?_
  simp [Dk.robs]
  refine hK4 _ ?_
  try clear hK4 K4
  refine vwp_block ?_
  refine vwp_loop_s (fun u : Nat × Lg × Dk => ⟨[(0, .ptr 0 5 0), (1, .int .i64 h), (2, .int .i64 at_), (3, .fs SL (bts S)), (9, .int .i64 (L : Int)), (10, .int .i64 ((u.1 : Int) + 1))], [.live [.sl 1 u.2.2.B.length 1 0 u.2.2.B.length, .bool u.2.2.down, .int .i64 u.2.2.fuse, .int .i64 u.2.2.torn, .int .i64 u.2.2.writes], .live (bts u.2.2.B)]⟩) (fun u => u.1 ≤ L ∧ u.2.2.ok n ∧ layK n h at_ ss (L - u.1) u.2.1 u.2.2 = res) (fun u => L - u.1) ((0, g, d)) (Gh.to_k [0, 1, 2, 3, 9, 10] [0, 1] (he := by simp [hS, hSL]) (hh := by simp [Dk.robs])) (⟨by simp, hd, by rw [hres, hL]; rfl⟩) ?_
  rintro ⟨i, g2, d2⟩ ⟨hi, hd2, hw⟩
  dsimp only at hi hd2 hw ⊢
  intro K5 hK5
  refine vwp_seq_k fun K6 hK6 => ?_
  refine vwp_sq [0, 1, 2, 3, 9, 10] fun K7 hK7 => vwp_region hT ?_
  simp [Dk.robs]
  refine hK7 _ ?_
  try clear hK7 K7
  refine vwp_cond (by first | rfl | (simp; rfl)) (fun h1 => ?_) fun h1 => ?_
  · simp -failIfUnchanged at h1; all_goals
   refine vwp_skip ?_
   refine hK6 _ ?_
   try clear hK6 K6
   refine vwp_seq_k fun K8 hK8 => ?_
   refine vwp_block ?_
   obtain ⟨r, hr⟩ : ∃ r, r = L - (i + 1) := ⟨_, rfl⟩
   have hr1 : L - i = r + 1 := by omega
   have hri : L - r = i + 1 := by omega
   rw [hr1, layK, ← hL, hri] at hw
   obtain ⟨k, hk⟩ : ∃ k, k = (i + 1) % L := ⟨_, rfl⟩
   have hkl : k < L := by rw [hk]; exact Nat.mod_lt _ (by omega)
   rw [← hk] at hw
   obtain ⟨b, hb⟩ := getI (l := ss) (i := k) (by omega)
   have hbd : ss.getD k [] = b := by rw [List.getD_eq_getElem?_getD, hb]; rfl
   have hb32 := h32 b (List.mem_of_getElem? hb)
   rw [hbd] at hw
   have w1 : IntKind.i64.wrap ((i : Int) + 1) = ((i + 1 : Nat) : Int) := w64 (by omega) (by omega)
   have w2 : ((i : Int) + 1).tmod (L : Int) = (k : Int) := by rw [hk]; rfl
   have w3 : ¬ (L : Int) = 0 := by omega
   have w3b : ¬ L = 0 := by omega
   refine vwp_sq [0, 1, 2, 3, 9, 10] fun K9 hK9 => vwp_region hT ?_
   simp [Dk.robs, w1, w2, w3, w3b]
   repeat refine ⟨by first | assumption | omega | (intros; omega), ?_⟩
   refine hK9 _ ?_
   try clear hK9 K9
   obtain ⟨ak, hak⟩ : ∃ ak, ak = at_ + k := ⟨_, rfl⟩
   obtain ⟨ix, hixe⟩ : ∃ ix, ix = hpv + ak := ⟨_, rfl⟩
   have hixn : ix < n := by omega
   have hixf : h * (n / 2) + (at_ + k) = ix := by rw [← hp, ← hhpv, hixe, hak]
   rw [hixf] at hw
   have hps := per_ref d2 n hd2
   rw [← hp] at hps
   have hws := rwrite_spec d2 n hd2 (ix : Int) (pad b)
   have hpbl := pad_length hb32
   rw [write_pad hb32, hpbl] at hws
   obtain ⟨we, hwe⟩ : ∃ we, we = (d2.write n (ix : Int) b).1 := ⟨_, rfl⟩
   obtain ⟨d3, hd3e⟩ : ∃ d3, d3 = (d2.write n (ix : Int) b).2 := ⟨_, rfl⟩
   have hd3 : d3.ok n := by rw [hd3e]; exact write_ok hd2 _ _
   rw [← hwe, ← hd3e] at hws hw
   obtain ⟨k32, hk32⟩ : ∃ k32, k32 = 32 * k := ⟨_, rfl⟩
   have v1 : IntKind.i64.wrap ((hpv : Int) + (at_ : Int)) = (hpv : Int) + (at_ : Int) := w64 (by omega) (by omega)
   have v2 : IntKind.i64.wrap ((hpv : Int) + (at_ : Int) + (k : Int)) = (ix : Int) := (w64 (by omega) (by omega)).trans (by omega)
   have v3 : IntKind.i64.wrap (32 * (k : Int)) = (k32 : Int) := (w64 (by omega) (by omega)).trans (by omega)
   have v4 : IntKind.i64.wrap ((k32 : Int) + 32) = ((k32 + 32 : Nat) : Int) := w64 (by omega) (by omega)
   have v5 : ((k32 : Int) + 32).toNat - k32 = 32 := by omega
   have hst : List.take 32 (List.drop k32 (bts S)) = bts (pad b) := by rw [hk32, ← List.map_drop, ← List.map_take, hSk k b hb]
   refine vwp_sq [0, 1, 2, 3, 9, 10, 11] fun K10 hK10 => vwp_storm hT hm [.pure, .pure, .pure, .mv, .win 1 1, .pure, .win 1 1, .pure, .win 1 1, .pure, .pure, .win 0 1, .pure, .win 0 1, .win 0 1, .win 0 1, .mv, .pure] [[], [], [], [2], [1, 2, 3], [], [1, 2, 3, 4, 5], [], [1, 2, 3, 4, 5, 6, 7], [], [], [10], [], [12], [12, 13], [9, 10, 11, 12, 13, 14], [0, 1, 2, 3, 4, 5, 6, 7, 8, 9, 10, 11, 12, 13, 14, 15], [0, 1, 2, 3, 4, 5, 6, 7, 8, 9, 10, 11, 12, 13, 14, 15, 16]] (by kernel_rfl) ?_
   simp [Dk.robs, wh1, v1, v2, v3, v4, v5, hst]
   repeat refine ⟨by first | assumption | omega | (intros; omega), ?_⟩
   refine ⟨.int .i64 (p : Int), d2.robs, fun sl => ?_, ?_⟩
   · refine vcall_k [0, 1] (hps) ?_ (hh := by simp [Dk.robs])
     rintro r ob' ⟨rfl, rfl⟩
     simp [Dk.robs]
   simp [Dk.robs, wh1, v1, v2, v3, v4, v5, hst]
   repeat refine ⟨by first | assumption | omega | (intros; omega), ?_⟩
   refine ⟨.int .i64 we, d3.robs, fun sl => ?_, ?_⟩
   · refine vcall_k [0, 1] (hws) ?_ (hh := by simp [Dk.robs])
     rintro r ob' ⟨rfl, rfl⟩
     simp [Dk.robs]
   simp [Dk.robs, wh1, v1, v2, v3, v4, v5, hst]
   repeat refine ⟨by first | assumption | omega | (intros; omega), ?_⟩
   refine hK10 _ ?_
   try clear hK10 K10
   refine vwp_sq [0, 1, 2, 3, 9, 10, 12] fun K11 hK11 => vwp_region hT ?_
   simp [Dk.robs]
   refine hK11 _ ?_
   try clear hK11 K11
   refine vwp_cond (by first | rfl | (simp; rfl)) (fun h2 => ?_) fun h2 => ?_
   · simp -failIfUnchanged at h2; all_goals
    have he0 : ¬ we = 0 := by simpa using h2
    rw [if_neg he0] at hw
    refine vwp_sq [12] fun K12 hK12 => vwp_region hT ?_
    simp [Dk.robs]
    refine hK12 _ ?_
    try clear hK12 K12
    refine vwp_ret (hR _ _ ?_)
    rw [← hres, ← hw]
    exact ret_k [8] [0, 1] (d3.robs) (.int .i64 we) (⟨rfl, rfl⟩) (hh := by simp [Dk.robs])
   · simp -failIfUnchanged at h2; all_goals
    have he0 : we = 0 := by simpa using h2
    rw [if_pos he0] at hw
    subst he0
    obtain ⟨g3, hg3⟩ : ∃ g3, g3 = g2.wrote 0 := ⟨_, rfl⟩
    have hw3 : layK n h at_ ss (L - (i + 1)) g3 d3 = res := by rw [hg3, ← hr]; exact hw
    refine vwp_skip ?_
    refine hK8 _ ?_
    try clear hK8 K8
    have w1 : IntKind.i64.wrap ((i : Int) + 1 + 1) = (i : Int) + 1 + 1 := w64 (by omega) (by omega)
    refine vwp_live [0, 1, 2, 3, 9, 10] (vwp_region hT ?_)
    simp [Dk.robs, w1]
    exact hK5 ((i + 1, g3, d3)) _ (Gh.to_k [0, 1, 2, 3, 9, 10] [0, 1] (he := by first | (simp; done) | (simp; omega))) (⟨by dsimp only; omega, hd3, hw3⟩) (by dsimp only; omega)
  · simp -failIfUnchanged at h1; all_goals
   refine vwp_exit ?_
   simp only [inBlk, thenQ, if_true]
   refine hK3 _ ?_
   try clear hK3 K3
   refine vwp_sq [] fun K13 hK13 => vwp_region hT ?_
   simp [Dk.robs]
   refine hK13 _ ?_
   try clear hK13 K13
   refine vwp_ret (hR _ _ ?_)
   have e : L - i = 0 := by omega
   rw [e, layK] at hw
   rw [← hres, ← hw]
   exact ret_k [8] [0, 1] (d2.robs) (.int .i64 0) (⟨rfl, rfl⟩) (hh := by simp [Dk.robs])
end Go.Proofs.Ytifhbgppjblobaa
