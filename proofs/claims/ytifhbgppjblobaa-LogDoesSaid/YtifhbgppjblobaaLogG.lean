/- A log over its disk: sectors of a half. -/
import Derived.Test.YtifhbgppjblobaaLogF
namespace Go.Proofs.Ytifhbgppjblobaa
open Go Go.VX Go.RowKit
set_option linter.unusedVariables false
set_option linter.unusedSimpArgs false
set_option maxHeartbeats 20000000
set_option maxRecDepth 100000

/-- A log, in short. -/
structure Lg where
  half : Nat
  gen : Nat
  rows : List (List Int)
  fin : Nat
  broken : Bool
abbrev logOb (g : Lg) : Ob := .live [.ptr 1 5 0, .int .i64 g.half, .int .u32 g.gen, .sl 3 g.rows.length 1 0 g.rows.length, .int .i64 g.fin, .bool g.broken]
abbrev dskOb (d : Dk) (n : Nat) : Ob := .live [.sl 2 d.B.length 32 0 n, .bool d.down, .int .i64 d.fuse, .int .i64 d.torn, .int .i64 d.writes]
abbrev lobs (g : Lg) (d : Dk) (n : Nat) : List Ob := [logOb g, dskOb d n, .live (bts d.B), .live (g.rows.map sB)]
theorem sector_len {d : Dk} {n : Nat} (hd : d.ok n) {a : Nat} (h : a < n) : (d.sector a).length = 32 := by
  have := hd.len
  simp [Dk.sector]; omega
theorem sector_byte {d : Dk} (hb : byteL d.B) (a : Nat) : byteL (d.sector a) := fun x hx => hb x (List.mem_of_mem_drop (List.mem_of_mem_take hx))
theorem per_spec (g : Lg) (d : Dk) (n : Nat) (hn : n ≤ 4096) : VC P 38 [.ptr 0 6 0] (lobs g d n) (fun r ob' => r = .int .i64 ((n / 2 : Nat) : Int) ∧ ob' = lobs g d n) := by
  refine VC_of_vwp_k ent_38 Try.func38 rfl (by simp) fun R hR => ?_
  refine vwp_sq [0] fun K1 hK1 => vwp_region hT ?_
  simp
  refine hK1 _ ?_
  try clear hK1 K1
  obtain ⟨p, hp⟩ : ∃ p, p = n / 2 := ⟨_, rfl⟩
  have w2 : IntKind.i64.wrap ((n : Int) / 2) = (p : Int) := (w64 (by omega) (by omega)).trans (by omega)
  have w3 : (n : Int).tdiv 2 = (p : Int) := by rw [hp]; rfl
  have w4 : IntKind.i64.wrap (p : Int) = (p : Int) := w64 (by omega) (by omega)
  refine vwp_sq [0] fun K2 hK2 => vwp_region hT ?_
  simp [w2, w3, w4]
  repeat refine ⟨by first | assumption | omega | (intros; omega), ?_⟩
  refine vcall_k [1, 2] (sectors_spec d n) ?_ (hh := by simp [Dk.obs])
  rintro r ob' ⟨rfl, rfl⟩
  simp only [Dk.obs]
  simp [w2, w3, w4]
  repeat refine ⟨by first | assumption | omega | (intros; omega), ?_⟩
  refine hK2 _ ?_
  try clear hK2 K2
  refine vwp_ret (hR _ _ ?_)
  rw [← hp]
  exact ret_k [2] [0, 1, 2, 3] (lobs g d n) (.int .i64 (p : Int)) (⟨rfl, rfl⟩)

theorem read_in {d : Dk} {n : Nat} (hd : d.ok n) {a : Nat} (h : a < n) : VC P 29 [.ptr 0 5 0, .int .i64 (a : Int)] (d.obs n) (fun r ob' => r = .tup [.sl 2 32 1 0 32, .int .i64 0] ∧ ob' = d.obs n ++ [.live (bts (d.sector a))]) :=
  (read_spec d n hd a).mono fun r ob' q => by
    rw [if_pos (by omega)] at q
    simpa using q
theorem lread_spec (g : Lg) (d : Dk) (n : Nat) (hd : d.ok n) (h at_ : Nat) (hix : h * (n / 2) + at_ < n) : VC P 57 [.ptr 0 6 0, .int .i64 h, .int .i64 at_] (lobs g d n) (fun r ob' => r = .sl 4 32 1 0 32 ∧ ob' = lobs g d n ++ [.live (bts (d.sector (h * (n / 2) + at_)))]) := by
  refine VC_of_vwp_k ent_57 Try.func57 rfl (by simp) fun R hR => ?_
  refine vwp_sq [0, 1, 2] fun K1 hK1 => vwp_region hT ?_
  simp
  refine hK1 _ ?_
  try clear hK1 K1
  obtain ⟨p, hp⟩ : ∃ p, p = n / 2 := ⟨_, rfl⟩
  rw [← hp] at hix
  obtain ⟨ix, hixx⟩ : ∃ ix, ix = h * p + at_ := ⟨_, rfl⟩
  rw [← hixx] at hix
  have hn2 := hd.n4
  have hhp : h * p ≤ 4096 := by omega
  obtain ⟨hpv, hhpv⟩ : ∃ hpv, hpv = h * p := ⟨_, rfl⟩
  have w1 : IntKind.i64.wrap ((h : Int) * (p : Int)) = (hpv : Int) := by rw [hhpv, ← Int.natCast_mul]; exact w64 (by omega) (by omega)
  have w2 : IntKind.i64.wrap ((hpv : Int) + (at_ : Int)) = (ix : Int) := (w64 (by omega) (by omega)).trans (by omega)
  have hps := per_spec g d n hn2
  rw [← hp] at hps
  refine vwp_sq [0, 1, 2] fun K2 hK2 => vwp_storm hT hm [.pure, .win 0 1, .win 0 1, .win 0 1, .pure, .pure, .mv, .win 1 1, .pure, .win 1 1, .mv, .pure, .pure, .pure, .pure, .pure] [[], [0], [0, 1], [0, 1, 2], [], [], [5], [4, 5, 6], [], [4, 5, 6, 7, 8], [0, 1, 2, 3, 4, 5, 6, 7, 8, 9], [0, 1, 2, 3, 4, 5, 6, 7, 8, 9, 10], [0, 1, 2, 3, 4, 5, 6, 7, 8, 9, 10, 11], [0, 1, 2, 3, 4, 5, 6, 7, 8, 9, 10, 11], [0, 1, 2, 3, 4, 5, 6, 7, 8, 9, 10, 11, 12], [0, 1, 2, 3, 4, 5, 6, 7, 8, 9, 10, 11, 12, 13, 14]] (by kernel_rfl) ?_
  simp [w1, w2]
  refine ⟨.int .i64 (p : Int), lobs g d n, fun sl => ?_, ?_⟩
  · refine vcall_k [0, 1, 2, 3] (hps) ?_
    rintro r ob' ⟨rfl, rfl⟩
    simp
  simp [w1, w2]
  refine ⟨.tup [.sl 4 32 1 0 32, .int .i64 0], lobs g d n ++ [.live (bts (d.sector ix))], fun sl => ?_, ?_⟩
  · refine vcall_k [1, 2] (read_in hd hix) ?_ (hh := by simp [Dk.obs])
    rintro r ob' ⟨rfl, rfl⟩
    simp only [Dk.obs]
    simp
  simp [w1, w2]
  refine hK2 _ ?_
  try clear hK2 K2
  refine vwp_sq [7] fun K3 hK3 => vwp_region hT ?_
  simp
  refine hK3 _ ?_
  try clear hK3 K3
  refine vwp_ret (hR _ _ ?_)
  rw [← hp, ← hixx]
  exact ret_k [6] [0, 1, 2, 3, 4] (lobs g d n ++ [.live (bts (d.sector ix))]) (.sl 4 32 1 0 32) (⟨rfl, rfl⟩)

theorem write_ok {d : Dk} {n : Nat} (hd : d.ok n) (a : Int) (b : List Int) : (d.write n a b).2.ok n := by
  have hl := hd.len
  have h1 := hd.t0
  have h2 := hd.t1
  have h3 := hd.f
  have h4 := hd.f2
  unfold Dk.write
  split
  · split
    · exact hd
    · split
      · exact hd
      · rename_i ha hb _
        have hpl := pad_length (b := b) (by omega)
        split
        · exact ⟨by rw [splI_length (by simp [hpl]; omega), hl], h1, h2, h3, hd.n2, hd.n4, h4⟩
        · refine ⟨by rw [splI_length (by simp [hpl]; omega), hl], h1, h2, ?_, hd.n2, hd.n4, ?_⟩
          · dsimp only
            split
            · omega
            · rw [w64 (by omega) (by omega)]; omega
          · dsimp only
            split
            · omega
            · rw [w64 (by omega) (by omega)]; omega
  · exact hd
def Lg.wrote (g : Lg) (e : Int) : Lg := { g with broken := g.broken || !(e == 0) }
theorem lwrite_spec (g : Lg) (d : Dk) (n : Nat) (hd : d.ok n) (h at_ : Nat) (hix : h * (n / 2) + at_ < n) (b : List Int) : VC P 39 [.ptr 0 6 0, .int .i64 h, .int .i64 at_, sB b] (lobs g d n) (fun r ob' => r = .int .i64 (d.write n ((h * (n / 2) + at_ : Nat) : Int) b).1 ∧ ob' = lobs (g.wrote (d.write n ((h * (n / 2) + at_ : Nat) : Int) b).1) (d.write n ((h * (n / 2) + at_ : Nat) : Int) b).2 n) := by
  refine VC_of_vwp_k ent_39 Try.func39 rfl (by simp) fun R hR => ?_
  refine vwp_sq [0, 1, 2, 3] fun K1 hK1 => vwp_region hT ?_
  simp
  refine hK1 _ ?_
  try clear hK1 K1
  obtain ⟨p, hp⟩ : ∃ p, p = n / 2 := ⟨_, rfl⟩
  rw [← hp] at hix
  obtain ⟨ix, hixx⟩ : ∃ ix, ix = h * p + at_ := ⟨_, rfl⟩
  rw [← hixx] at hix
  have hn2 := hd.n4
  have hhp : h * p ≤ 4096 := by omega
  obtain ⟨hpv, hhpv⟩ : ∃ hpv, hpv = h * p := ⟨_, rfl⟩
  have w1 : IntKind.i64.wrap ((h : Int) * (p : Int)) = (hpv : Int) := by rw [hhpv, ← Int.natCast_mul]; exact w64 (by omega) (by omega)
  have w2 : IntKind.i64.wrap ((hpv : Int) + (at_ : Int)) = (ix : Int) := (w64 (by omega) (by omega)).trans (by omega)
  have hps := per_spec g d n hn2
  rw [← hp] at hps
  obtain ⟨we, hwe⟩ : ∃ we, we = (d.write n (ix : Int) b).1 := ⟨_, rfl⟩
  obtain ⟨wd, hwd⟩ : ∃ wd, wd = (d.write n (ix : Int) b).2 := ⟨_, rfl⟩
  have hws := write_spec d n hd (ix : Int) b
  rw [← hwe, ← hwd] at hws
  refine vwp_sq [0, 1, 2, 3] fun K2 hK2 => vwp_storm hT hm [.pure, .win 0 1, .win 0 1, .win 0 1, .pure, .pure, .mv, .win 1 1, .pure, .win 1 1, .pure, .mv, .pure] [[], [0], [0, 1], [0, 1, 2], [], [], [5], [4, 5, 6], [], [4, 5, 6, 7, 8], [], [0, 1, 2, 3, 4, 5, 6, 7, 8, 9, 10], [0, 1, 2, 3, 4, 5, 6, 7, 8, 9, 10, 11]] (by kernel_rfl) ?_
  simp [w1, w2]
  refine ⟨.int .i64 (p : Int), lobs g d n, fun sl => ?_, ?_⟩
  · refine vcall_k [0, 1, 2, 3] (hps) ?_
    rintro r ob' ⟨rfl, rfl⟩
    simp
  simp [w1, w2]
  refine ⟨.int .i64 we, lobs g wd n, fun sl => ?_, ?_⟩
  · refine vcall_k [1, 2] (hws) ?_ (hh := by simp [Dk.obs])
    rintro r ob' ⟨rfl, rfl⟩
    simp only [Dk.obs]
    simp
  simp [w1, w2]
  refine hK2 _ ?_
  try clear hK2 K2
  refine vwp_sq [0, 9] fun K3 hK3 => vwp_region hT ?_
  simp
  repeat refine ⟨by first | assumption | omega | (intros; omega), ?_⟩
  refine hK3 _ ?_
  try clear hK3 K3
  refine vwp_sq [9] fun K4 hK4 => vwp_region hT ?_
  simp
  refine hK4 _ ?_
  try clear hK4 K4
  refine vwp_ret (hR _ _ ?_)
  rw [← hp, ← hixx, ← hwe, ← hwd]
  exact ret_k [8] [0, 1, 2, 3] (lobs (g.wrote we) wd n) (.int .i64 we) (⟨rfl, rfl⟩) (hh := by simp [Lg.wrote, bne])

theorem lwrite_nil (g : Lg) (d : Dk) (n : Nat) (hd : d.ok n) (h at_ : Nat) (hix : h * (n / 2) + at_ < n) : VC P 39 [.ptr 0 6 0, .int .i64 h, .int .i64 at_, .nils] (lobs g d n) (fun r ob' => r = .int .i64 (d.write n ((h * (n / 2) + at_ : Nat) : Int) []).1 ∧ ob' = lobs (g.wrote (d.write n ((h * (n / 2) + at_ : Nat) : Int) []).1) (d.write n ((h * (n / 2) + at_ : Nat) : Int) []).2 n) := by
  refine (lwrite_spec g d n hd h at_ hix []).weak fun E vals h => ?_
  obtain ⟨u, r, e1, a1, h1, u2, r2, e2, a2, h2, u3, r3, e3, a3, h3, u4, r4, e4, a4, h4, h5⟩ := h
  exact ⟨u, r, e1, a1, h1, u2, r2, e2, a2, h2, u3, r3, e3, a3, h3, u4, r4, e4, trivial, h4.nil_fs, h5⟩
theorem left_spec (g : Lg) (d : Dk) (n : Nat) (hn : n ≤ 4096) (hf : g.fin ≤ 1099511627776) : VC P 17 [.ptr 0 6 0] (lobs g d n) (fun r ob' => r = .int .i64 (((n / 2 : Nat) : Int) - g.fin) ∧ ob' = lobs g d n) := by
  refine VC_of_vwp_k ent_17 Try.func17 rfl (by simp) fun R hR => ?_
  refine vwp_sq [0] fun K1 hK1 => vwp_region hT ?_
  simp
  refine hK1 _ ?_
  try clear hK1 K1
  obtain ⟨p, hp⟩ : ∃ p, p = n / 2 := ⟨_, rfl⟩
  have hps := per_spec g d n hn
  rw [← hp] at hps
  have w1 : IntKind.i64.wrap ((p : Int) - (g.fin : Int)) = (p : Int) - g.fin := w64 (by omega) (by omega)
  refine vwp_sq [0] fun K2 hK2 => vwp_storm hT hm [.pure, .mv, .pure, .win 0 1, .win 0 1, .win 0 1, .win 1 1, .pure] [[], [0], [], [2], [2, 3], [2, 3, 4], [0, 1, 2, 3, 4, 5], [0, 1, 2, 3, 4, 5, 6]] (by kernel_rfl) ?_
  simp [w1]
  refine ⟨.int .i64 (p : Int), lobs g d n, fun sl => ?_, ?_⟩
  · refine vcall_k [0, 1, 2, 3] (hps) ?_
    rintro r ob' ⟨rfl, rfl⟩
    simp
  simp [w1]
  refine hK2 _ ?_
  try clear hK2 K2
  refine vwp_ret (hR _ _ ?_)
  rw [← hp]
  exact ret_k [2] [0, 1, 2, 3] (lobs g d n) (.int .i64 ((p : Int) - g.fin)) (⟨rfl, rfl⟩)
theorem generation_spec (g : Lg) (d : Dk) (n : Nat) (hg : g.gen < 4294967296) : VC P 18 [.ptr 0 6 0] (lobs g d n) (fun r ob' => r = .int .i64 (g.gen : Int) ∧ ob' = lobs g d n) := by
  refine VC_of_vwp_k ent_18 Try.func18 rfl (by simp) fun R hR => ?_
  refine vwp_sq [0] fun K1 hK1 => vwp_region hT ?_
  simp
  refine hK1 _ ?_
  try clear hK1 K1
  have w1 : IntKind.i64.wrap (g.gen : Int) = g.gen := w64 (by omega) (by omega)
  refine vwp_sq [0] fun K2 hK2 => vwp_region hT ?_
  simp [w1]
  repeat refine ⟨by first | assumption | omega | (intros; omega), ?_⟩
  refine hK2 _ ?_
  try clear hK2 K2
  refine vwp_ret (hR _ _ ?_)
  exact ret_k [2] [0, 1, 2, 3] (lobs g d n) (.int .i64 (g.gen : Int)) (⟨rfl, rfl⟩)
end Go.Proofs.Ytifhbgppjblobaa
