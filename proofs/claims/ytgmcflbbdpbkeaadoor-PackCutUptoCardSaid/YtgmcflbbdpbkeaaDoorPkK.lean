/- A reader takes values by letters, once, or again and again; the panics are recovered. -/
import Derived.Test.YtgmcflbbdpbkeaaDoorPkJ
namespace Go.Proofs.YtgmcflbbdpbkeaaDoor
open Go Go.VX Go.RowKit
set_option linter.unusedVariables false
set_option linter.unusedSimpArgs false
set_option maxHeartbeats 20000000
set_option maxRecDepth 100000

theorem rnumber_ok {B C : List Int} {n : Int} (hb : byteL B) (hBl : B.length < 1099511627776) (h : takeN B = .ok (n, C)) : VC P 31 [.ptr 0 1 0] [rdr B] (fun r ob' => r = .int .i64 n ∧ ob' = [rdr C]) :=
  ((rnumber_spec B hb hBl).mono (Q' := fun r ob' => r = .int .i64 n ∧ ob' = [rdr C]) (R' := fun _ _ => False) (by
    rintro r ob' ⟨n', C', h', rfl, rfl⟩
    rw [h] at h'
    cases h'
    exact ⟨rfl, rfl⟩) (by
    rintro v ob' ⟨e, B', h', rfl, rfl⟩
    rw [h] at h'
    cases h')).toVC
theorem rtext_ok {B C x : List Int} (hb : byteL B) (hBl : B.length < 1099511627776) (h : takeT B = .ok (x, C)) : VC P 32 [.ptr 0 1 0] [rdr B] (fun r ob' => r = .str (strOfV (bts x)) ∧ ob' = [rdr C]) :=
  ((rtext_spec B hb hBl).mono (Q' := fun r ob' => r = .str (strOfV (bts x)) ∧ ob' = [rdr C]) (R' := fun _ _ => False) (by
    rintro r ob' ⟨t, C', h', rfl, rfl⟩
    rw [h] at h'
    cases h'
    exact ⟨by rw [sL_inj (sL_strOfV (sL_byte t))], rfl⟩) (by
    rintro v ob' ⟨e, B', h', rfl, rfl⟩
    rw [h] at h'
    cases h')).toVC
theorem takeT_byte {B C x : List Int} (h : takeT B = .ok (x, C)) (hb : byteL B) : byteL C ∧ C.length < B.length ∧ byteL x ∧ x.length ≤ 1000 ∧ ∃ n : Nat, takeN B = .ok ((n : Int), x ++ C) ∧ x.length = n := by
  unfold takeT at h
  split at h
  · cases h
  rename_i n D hN
  split at h
  · cases h
  split at h
  · cases h
  rename_i h1 h2
  simp only [Except.ok.injEq, Prod.mk.injEq] at h
  obtain ⟨rfl, rfl⟩ := h
  obtain ⟨hDb, _⟩ := takeN_byte hN hb
  have hlt : D.length < B.length := by
    rw [(takeN_num hN hb).1, List.length_append, numB]
    have : 0 < (varB (zag n)).length := by
      by_cases h : zag n < 128
      · rw [varB_lt h]; simp
      · rw [varB_ge h]; simp
    omega
  exact ⟨fun y hy => hDb y (List.mem_of_mem_drop hy), by rw [List.length_drop]; omega, fun y hy => hDb y (List.mem_of_mem_take hy), by rw [List.length_take]; omega, n.toNat, by rw [List.take_append_drop, Int.toNat_of_nonneg (by omega)]; exact hN, by rw [List.length_take]; omega⟩
theorem takeN_lt {B C : List Int} {n : Int} (h : takeN B = .ok (n, C)) (hb : byteL B) : C.length < B.length := by
  rw [(takeN_num h hb).1, List.length_append, numB]
  have : 0 < (varB (zag n)).length := by
    by_cases h : zag n < 128
    · rw [varB_lt h]; simp
    · rw [varB_ge h]; simp
  omega
/-- A value is taken, by the letter at its place. -/
def takeV (S : List Int) (i : Nat) (B : List Int) : Except Int (PV × List Int) :=
  if S.getD (i % S.length) 0 = 110 then (match takeN B with
    | .error e => .error e
    | .ok (n, C) => .ok (⟨n, ⟨#[]⟩⟩, C)) else match takeT B with
    | .error e => .error e
    | .ok (x, C) => .ok (⟨0, strOfV (bts x)⟩, C)
/-- Is there one more? -/
def moreB (S : List Int) (again : Bool) (i : Nat) (B : List Int) : Bool := (again && (!decide (B = []) || !decide (i % S.length = 0))) || (!again && decide (i < S.length))
def allK (S : List Int) (again : Bool) : Nat → List PV → List Int → Except Int (List PV × List Int)
  | 0, _, _ => .error 0
  | f + 1, l, B => if moreB S again l.length B then (match takeV S l.length B with
    | .error e => .error e
    | .ok (x, C) => allK S again f (l ++ [x]) C) else .ok (l, B)
/-- All values. -/
def allR (S : List Int) (again : Bool) (B : List Int) : Except Int (List PV) := match allK S again (B.length + 1) [] B with
  | .error e => .error e
  | .ok (l, C) => if C = [] then .ok l else .error 2
def vcs (l : List PV) : List V := l.flatMap PV.cells
@[simp] theorem vcs_nil : vcs [] = [] := rfl
@[simp] theorem vcs_len (l : List PV) : (vcs l).length = 2 * l.length := by
  induction l with
  | nil => rfl
  | cons x l ih => rw [vcs, List.flatMap_cons, List.length_append, show (List.flatMap PV.cells l).length = _ from ih]; simp; omega
theorem vcs_mem {l : List PV} {v : V} (h : v ∈ vcs l) : (∃ n, v = .int .i64 n) ∨ ∃ t, v = .str t := by
  obtain ⟨x, _, h⟩ := List.mem_flatMap.1 h
  simp only [PV.cells, List.mem_cons, List.not_mem_nil, or_false] at h
  rcases h with rfl | rfl
  · exact .inl ⟨_, rfl⟩
  · exact .inr ⟨_, rfl⟩
@[simp] theorem vcs_rn (f : Nat → Nat) (l : List PV) : (vcs l).map (rn1 f) = vcs l := (List.map_congr_left fun v hv => by
  rcases vcs_mem hv with ⟨n, rfl⟩ | ⟨n, rfl⟩ <;> rfl).trans (List.map_id _)
@[simp] theorem vcs_flat (l : List PV) : (vcs l).all V.flat1 = true := by
  rw [List.all_eq_true]
  intro v hv
  rcases vcs_mem hv with ⟨n, rfl⟩ | ⟨n, rfl⟩ <;> rfl
theorem vcs_add (l : List PV) (x : PV) : vcs (l ++ [x]) = vcs l ++ x.cells := by simp [vcs]
theorem allK_step {S : List Int} {again : Bool} {f : Nat} {l : List PV} {B C : List Int} {x : PV} (hm : moreB S again l.length B = true) (hv : takeV S l.length B = .ok (x, C)) (hf : B.length < f) : ∃ g, allK S again f l B = allK S again g (l ++ [x]) C ∧ f = g + 1 := by
  obtain ⟨g, rfl⟩ := Nat.exists_eq_succ_of_ne_zero (by omega : f ≠ 0)
  exact ⟨g, by rw [allK, if_pos hm, hv], rfl⟩
theorem allK_err {S : List Int} {again : Bool} {f : Nat} {l : List PV} {B : List Int} {e : Int} (hm : moreB S again l.length B = true) (hv : takeV S l.length B = .error e) (hf : B.length < f) : allK S again f l B = .error e := by
  obtain ⟨g, rfl⟩ := Nat.exists_eq_succ_of_ne_zero (by omega : f ≠ 0)
  rw [allK, if_pos hm, hv]
theorem allK_end {S : List Int} {again : Bool} {f : Nat} {l : List PV} {B : List Int} (hm : moreB S again l.length B = false) (hf : B.length < f) : allK S again f l B = .ok (l, B) := by
  obtain ⟨g, rfl⟩ := Nat.exists_eq_succ_of_ne_zero (by omega : f ≠ 0)
  rw [allK, if_neg (by simp [hm])]

theorem allR_err {S : List Int} {again : Bool} {B : List Int} {e : Int} (h : allK S again (B.length + 1) [] B = .error e) : allR S again B = .error e := by rw [allR, h]
theorem allR_ok {S : List Int} {again : Bool} {B C : List Int} {l : List PV} (h : allK S again (B.length + 1) [] B = .ok (l, C)) : allR S again B = if C = [] then .ok l else .error 2 := by rw [allR, h]
theorem all_spec (s : ByteArray) (hs0 : 0 < s.size) (hs1 : s.size ≤ 1000) (again : Bool) (B : List Int) (hb : byteL B) (hBl : B.length < 1099511627776) : VC P 26 [.ptr 0 1 0, .str s, .bool again] [rdr B] (fun r ob' => ∃ o1 o2 o3 C, ob' = [rdr C, o1, o2, o3] ∧ match allR (sL s) again B with | .ok l => r = .tup [.sl 3 (vcs l).length 2 0 l.length, .int .i64 0] ∧ o3 = .live (vcs l) | .error e => r = .tup [.nils, .int .i64 e]) := by
  refine VC_of_defer_k hT ent_26 Tryd.func26 rfl (by simp) ⟨[(0, .ptr 0 1 0), (1, .str s), (2, .bool again), (6, .ptr 1 1 0), (7, .ptr 2 1 0), (9, .fn 30 [.ptr 1 1 0, .ptr 2 1 0])], [rdr B, .live [.nils], .live [.int .i64 0]]⟩ [.ptr 1 1 0, .ptr 2 1 0] (fun K hK => by simp [vplain]; exact hK) rfl ?_
  intro Qx Rx hQ hPn
  refine vwq_gh (Gh.virtCell 1 0 2 (by rfl) (by rfl)) ?_
  simp only [List.cons_append, List.nil_append, List.length_cons, List.length_nil, List.set]
  have hpan : ∀ (e : Int) (sl : List (Nat × V)) (C : List Int) (l : List PV), getS sl 6 = .ptr 1 1 0 → getS sl 7 = .ptr 2 1 0 → allR (sL s) again B = .error e → Rx (stopV e) ⟨sl, [rdr C, .live [.sl 3 (2 * l.length) 2 0 l.length], .live [.int .i64 0], .live (vcs l)]⟩ := by
    intro e sl C l h6 h7 he
    refine hPn _ _ (((clo_panic (.sl 2 (2 * l.length) 2 0 l.length) (.int .i64 0) e [.live (vcs l)]).at (args := [.ptr 1 1 0, .ptr 2 1 0]) (ob := [rdr C, .live [.sl 3 (2 * l.length) 2 0 l.length], .live [.int .i64 0], .live (vcs l)]) [1, 2, 3]).mono ?_)
    rintro u' ob'' ⟨ob', rfl, rfl, rfl⟩
    refine ⟨rfl, [.nils, .int .i64 e], by simp, ?_, ?_⟩
    · exact ⟨⟨_, _, _, _, rfl, by rw [h6]; rfl, rfl, rfl, rfl⟩, ⟨_, _, _, _, rfl, by rw [h7]; rfl, rfl, rfl, rfl⟩, trivial⟩
    · refine ⟨.live [.nils], .live [.int .i64 e], .live (vcs l), C, by simp, ?_⟩
      rw [he]
  have hR : ∀ (x : X) (st' : St), (x = .ret ∧ getS st'.sl 6 = .ptr 1 1 0 ∧ getS st'.sl 7 = .ptr 2 1 0 ∧ ∃ l, allR (sL s) again B = .ok l ∧ st'.ob = [rdr [], .live [.sl 3 (2 * l.length) 2 0 l.length], .live [.int .i64 0], .live (vcs l)]) → Qx x st' := by
    rintro x ⟨sl, ob⟩ ⟨rfl, h6, h7, l, hl, rfl⟩
    dsimp only at h6 h7
    refine hQ _ _ (.inr rfl) (((clo_idle (.sl 2 (2 * l.length) 2 0 l.length) (.int .i64 0) [.live (vcs l)]).at (args := [.ptr 1 1 0, .ptr 2 1 0]) (ob := [rdr [], .live [.sl 3 (2 * l.length) 2 0 l.length], .live [.int .i64 0], .live (vcs l)]) [1, 2, 3]).mono ?_)
    rintro u' ob'' ⟨ob', rfl, rfl, rfl⟩
    refine ⟨rfl, [.sl 3 (2 * l.length) 2 0 l.length, .int .i64 0], by simp, ?_, ?_⟩
    · exact ⟨⟨_, _, _, _, rfl, by rw [h6]; rfl, rfl, rfl, rfl⟩, ⟨_, _, _, _, rfl, by rw [h7]; rfl, rfl, rfl, rfl⟩, trivial⟩
    · refine ⟨.live [.sl 3 (2 * l.length) 2 0 l.length], .live [.int .i64 0], .live (vcs l), [], by simp, ?_⟩
      rw [hl]
      exact ⟨by simp, rfl⟩
  refine vwq_seq_k fun K1 hK1 => ?_
  refine vwq_sq [0, 1, 2, 6, 7] fun K2 hK2 => vwq_of (vwp_region hT ?_)
  simp
  refine hK2 _ ?_
  try clear hK2 K2
  refine vwq_block ?_
  refine vwq_loop_s (fun z : List PV × List Int => ⟨[(0, .ptr 0 1 0), (1, .str s), (2, .bool again), (6, .ptr 1 1 0), (7, .ptr 2 1 0), (8, .int .i64 (z.1.length : Int))], [rdr z.2, .live [.sl 3 (vcs z.1).length 2 0 z.1.length], .live [.int .i64 0], .live (vcs z.1)]⟩) (fun z => byteL z.2 ∧ z.1.length + z.2.length ≤ B.length ∧ ∃ f, z.2.length < f ∧ allK (sL s) again (B.length + 1) [] B = allK (sL s) again f z.1 z.2) (fun z => z.2.length) (([], B)) (Gh.to_k [0, 1, 2, 6, 7, 8] [0, 1, 2, 3]) (⟨hb, by simp, B.length + 1, by simp, rfl⟩) ?_
  rintro ⟨l, B1⟩ ⟨hb1, hl1, f, hf1, hal⟩
  dsimp only at hb1 hl1 hf1 hal
  intro K3 hK3
  refine vwq_seq_k fun K4 hK4 => ?_
  refine vwq_cut_s (fun _ : Unit => ⟨[(0, .ptr 0 1 0), (1, .str s), (2, .bool again), (6, .ptr 1 1 0), (7, .ptr 2 1 0), (8, .int .i64 (l.length : Int)), (35, .bool (moreB (sL s) again l.length B1))], [rdr B1, .live [.sl 3 (vcs l).length 2 0 l.length], .live [.int .i64 0], .live (vcs l)]⟩) (fun _ => True) (fun K5 hK5 => ?_) ?_
  · have hls := sL_len s
    have hse : ¬ s = ByteArray.empty := by rintro rfl; simp at hs0
    have hrm : (l.length : Int).tmod (s.size : Int) = ((l.length % s.size : Nat) : Int) := rfl
    have e1 : ((l.length : Int).tmod (s.size : Int) = 0) = (l.length % s.size = 0) := propext (by rw [hrm]; omega)
    have e2 : (decide (B1 = []) : Bool) = !decide (0 < B1.length) := by cases B1 <;> simp
    rcases Bool.eq_false_or_eq_true again with ha | ha
    · have hmo : moreB (sL s) true l.length B1 = (decide (0 < B1.length) || !decide ((l.length : Int).tmod (s.size : Int) = 0)) := by simp [moreB, hls, e1, e2]
      refine vwq_live [0, 1, 2, 6, 7, 8] (vwq_of (vwp_region hT ?_))
      simp [ha]
      repeat refine ⟨by first | assumption | omega | (intros; omega), ?_⟩
      exact hK5 () _ (Gh.to_k [0, 1, 2, 6, 7, 8, 35] [0, 1, 2, 3] (he := by simp [hmo, ha]) (hh := by simp)) trivial
    · have hmo : moreB (sL s) false l.length B1 = decide (l.length < s.size) := by simp [moreB, hls]
      refine vwq_live [0, 1, 2, 6, 7, 8] (vwq_of (vwp_region hT ?_))
      simp [ha]
      repeat refine ⟨by first | assumption | omega | (intros; omega), ?_⟩
      exact hK5 () _ (Gh.to_k [0, 1, 2, 6, 7, 8, 35] [0, 1, 2, 3] (he := by simp [hmo, ha]) (hh := by simp)) trivial
  · rintro _ _
    refine vwq_cond (by first | rfl | (simp; rfl)) (fun h1 => ?_) fun h1 => ?_
    · simp -failIfUnchanged at h1; all_goals
     have hmo1 : moreB (sL s) again l.length B1 = true := h1
     refine vwq_skip ?_
     refine hK4 _ ?_
     try clear hK4 K4
     refine vwq_seq_k fun K6 hK6 => ?_
     refine vwq_block ?_
     have hls := sL_len s
     have hse : ¬ s = ByteArray.empty := by rintro rfl; simp at hs0
     have hrm : (l.length : Int).tmod (s.size : Int) = ((l.length % s.size : Nat) : Int) := rfl
     have hmlt := Nat.mod_lt l.length hs0
     obtain ⟨j, hj⟩ : ∃ j, j = l.length % s.size := ⟨_, rfl⟩
     rw [← hj] at hrm hmlt
     obtain ⟨c, hc⟩ := getI (l := sL s) (i := j) (by omega)
     have hg := sL_get hc
     have hcd : (sL s).getD (l.length % (sL s).length) 0 = c := by rw [hls, ← hj, List.getD_eq_getElem?_getD, hc]; rfl
     have hvx : takeV (sL s) l.length B1 = if c = 110 then (match takeN B1 with
         | .error e => .error e
         | .ok (n, C) => .ok (⟨n, ⟨#[]⟩⟩, C)) else match takeT B1 with
         | .error e => .error e
         | .ok (x, C) => .ok (⟨0, strOfV (bts x)⟩, C) := by rw [takeV, hcd]
     refine vwq_sq [0, 1, 2, 6, 7, 8] fun K7 hK7 => vwq_of (vwp_region hT ?_)
     simp [hrm, hg]
     repeat refine ⟨by first | assumption | omega | (intros; omega), ?_⟩
     refine hK7 _ ?_
     try clear hK7 K7
     refine vwq_cond (by first | rfl | (simp; rfl)) (fun h2 => ?_) fun h2 => ?_
     · simp -failIfUnchanged at h2; all_goals
      have hc1 : c = 110 := by simpa using h2
      rw [if_pos hc1] at hvx
      rcases hN : takeN B1 with e | ⟨n, C⟩
      · rw [hN] at hvx
        have hvx : takeV (sL s) l.length B1 = .error e := hvx
        have herr := allR_err (hal.trans (allK_err hmo1 hvx hf1))
        refine vwq_live [0, 1, 2, 6, 7, 8] (vwq_region_any hT hm ?_)
        refine vany_step [0, 1] (by kernel_rfl) (by simp) fun i hi => ?_
        simp only [List.mem_cons, List.not_mem_nil, or_false] at hi
        rcases hi with rfl | rfl
        · refine ⟨_, rfl, rfl, ?_⟩
          generalize hKK : vanyQ _ _ _ _ _ _ _ _ = KK
          simp
          subst hKK
          refine vany_step [1] (by kernel_rfl) (by simp) fun i hi => ?_
          simp only [List.mem_cons, List.not_mem_nil, or_false] at hi
          subst hi
          refine ⟨_, rfl, rfl, ?_⟩
          generalize hKK : vanyQ _ _ _ _ _ _ _ _ = KK
          simp
          subst hKK
          refine vany_step [2] (by kernel_rfl) (by simp) fun i hi => ?_
          simp only [List.mem_cons, List.not_mem_nil, or_false] at hi
          subst hi
          refine ⟨_, rfl, rfl, ?_⟩
          generalize hKK : vanyQ _ _ _ _ _ _ _ _ = KK
          simp
          refine vcallQ_k [0] (rnumber_spec B1 hb1 (by omega)) ?_ ?_
          · rintro r ob' ⟨n, C, h, _⟩
            rw [hN] at h
            cases h
          · rintro v ob' ⟨e', B', h, rfl, rfl⟩
            rw [hN] at h
            cases h
            simp
            exact hpan _ _ _ _ rfl rfl herr
        · refine ⟨_, rfl, rfl, ?_⟩
          generalize hKK : vanyQ _ _ _ _ _ _ _ _ = KK
          simp
          subst hKK
          refine vany_step [0, 2] (by kernel_rfl) (by simp) fun i hi => ?_
          simp only [List.mem_cons, List.not_mem_nil, or_false] at hi
          rcases hi with rfl | rfl
          · refine ⟨_, rfl, rfl, ?_⟩
            generalize hKK : vanyQ _ _ _ _ _ _ _ _ = KK
            simp
            subst hKK
            refine vany_step [2] (by kernel_rfl) (by simp) fun i hi => ?_
            simp only [List.mem_cons, List.not_mem_nil, or_false] at hi
            subst hi
            refine ⟨_, rfl, rfl, ?_⟩
            generalize hKK : vanyQ _ _ _ _ _ _ _ _ = KK
            simp
            refine vcallQ_k [0] (rnumber_spec B1 hb1 (by omega)) ?_ ?_
            · rintro r ob' ⟨n, C, h, _⟩
              rw [hN] at h
              cases h
            · rintro v ob' ⟨e', B', h, rfl, rfl⟩
              rw [hN] at h
              cases h
              simp
              exact hpan _ _ _ _ rfl rfl herr
          · refine ⟨_, rfl, rfl, ?_⟩
            generalize hKK : vanyQ _ _ _ _ _ _ _ _ = KK
            simp
            refine vcallQ_k [0] (rnumber_spec B1 hb1 (by omega)) ?_ ?_
            · rintro r ob' ⟨n, C, h, _⟩
              rw [hN] at h
              cases h
            · rintro v ob' ⟨e', B', h, rfl, rfl⟩
              rw [hN] at h
              cases h
              simp
              exact hpan _ _ _ _ rfl rfl herr
      · obtain ⟨x, hx⟩ : ∃ x : PV, x = ⟨n, ⟨#[]⟩⟩ := ⟨_, rfl⟩
        have hvx : takeV (sL s) l.length B1 = .ok (x, C) := by rw [hvx, hN, hx]
        have hlt : C.length < B1.length := (takeN_lt hN hb1)
        have hCb : byteL C := (takeN_byte hN hb1).1
        obtain ⟨g, hg1, hg2⟩ := allK_step hmo1 hvx hf1
        have hz : zerosV [.int .i64 0, .str ⟨#[]⟩] 1 = [.int .i64 0, .str ⟨#[]⟩] := rfl
        have hcap : ¬ (l.length * 2 < 2 * l.length) := by omega
        refine vwq_live [0, 1, 2, 6, 7, 8] (vwq_of (vwp_storm hT hm [.win 0 3, .pure, .mv, .mv, .mv, .mv, .mv] [[], [], [1], [1, 2], [1, 2, 3], [0, 1, 2, 3, 4], [0, 1, 2, 3, 4, 5]] (by kernel_rfl) ?_))
        simp [hcap, hz]
        repeat refine ⟨by first | assumption | omega | (intros; omega), ?_⟩
        refine ⟨.int .i64 n, [rdr C, .live [.sl 3 (2 * l.length) 2 0 l.length], .live [.int .i64 0], .live (vcs l)], fun sl => ?_, ?_⟩
        · refine vcall_k [0] (rnumber_ok hb1 (by omega) hN) ?_
          rintro r ob' ⟨rfl, rfl⟩
          simp
        simp [hcap, hz]
        repeat refine ⟨by first | assumption | omega | (intros; omega), ?_⟩
        refine ⟨.agg [.int .i64 n, .str ⟨#[]⟩], [rdr C, .live [.sl 3 (2 * l.length) 2 0 l.length], .live [.int .i64 0], .live (vcs l)], fun sl => ?_, ?_⟩
        · refine vcall_k [] (Number_spec n) ?_
          rintro r ob' ⟨rfl, rfl⟩
          simp
        simp [hcap, hz]
        repeat refine ⟨by first | assumption | omega | (intros; omega), ?_⟩
        refine hK6 _ ?_
        try clear hK6 K6
        have w1 : IntKind.i64.wrap ((l.length : Int) + 1) = (l.length : Int) + 1 := w64 (by omega) (by omega)
        refine vwq_live [0, 1, 2, 6, 7, 8] (vwq_of (vwp_region hT ?_))
        simp [w1]
        exact hK3 ((l ++ [x], C)) _ (Gh.to_k [0, 1, 2, 6, 7, 8] [0, 1, 2, 3] (he := by simp) (hh := by simp [vcs_add, hx, Nat.mul_comm, Nat.add_mul])) (⟨hCb, by simp; omega, g, by dsimp only; omega, hal.trans hg1⟩) (hlt)
     · simp -failIfUnchanged at h2; all_goals
      have hc1 : ¬ c = 110 := by simpa using h2
      rw [if_neg hc1] at hvx
      rcases hN : takeT B1 with e | ⟨n, C⟩
      · rw [hN] at hvx
        have hvx : takeV (sL s) l.length B1 = .error e := hvx
        have herr := allR_err (hal.trans (allK_err hmo1 hvx hf1))
        refine vwq_live [0, 1, 2, 6, 7, 8] (vwq_region_any hT hm ?_)
        refine vany_step [0, 1] (by kernel_rfl) (by simp) fun i hi => ?_
        simp only [List.mem_cons, List.not_mem_nil, or_false] at hi
        rcases hi with rfl | rfl
        · refine ⟨_, rfl, rfl, ?_⟩
          generalize hKK : vanyQ _ _ _ _ _ _ _ _ = KK
          simp
          subst hKK
          refine vany_step [1] (by kernel_rfl) (by simp) fun i hi => ?_
          simp only [List.mem_cons, List.not_mem_nil, or_false] at hi
          subst hi
          refine ⟨_, rfl, rfl, ?_⟩
          generalize hKK : vanyQ _ _ _ _ _ _ _ _ = KK
          simp
          subst hKK
          refine vany_step [2] (by kernel_rfl) (by simp) fun i hi => ?_
          simp only [List.mem_cons, List.not_mem_nil, or_false] at hi
          subst hi
          refine ⟨_, rfl, rfl, ?_⟩
          generalize hKK : vanyQ _ _ _ _ _ _ _ _ = KK
          simp
          refine vcallQ_k [0] (rtext_spec B1 hb1 (by omega)) ?_ ?_
          · rintro r ob' ⟨n, C, h, _⟩
            rw [hN] at h
            cases h
          · rintro v ob' ⟨e', B', h, rfl, rfl⟩
            rw [hN] at h
            cases h
            simp
            exact hpan _ _ _ _ rfl rfl herr
        · refine ⟨_, rfl, rfl, ?_⟩
          generalize hKK : vanyQ _ _ _ _ _ _ _ _ = KK
          simp
          subst hKK
          refine vany_step [0, 2] (by kernel_rfl) (by simp) fun i hi => ?_
          simp only [List.mem_cons, List.not_mem_nil, or_false] at hi
          rcases hi with rfl | rfl
          · refine ⟨_, rfl, rfl, ?_⟩
            generalize hKK : vanyQ _ _ _ _ _ _ _ _ = KK
            simp
            subst hKK
            refine vany_step [2] (by kernel_rfl) (by simp) fun i hi => ?_
            simp only [List.mem_cons, List.not_mem_nil, or_false] at hi
            subst hi
            refine ⟨_, rfl, rfl, ?_⟩
            generalize hKK : vanyQ _ _ _ _ _ _ _ _ = KK
            simp
            refine vcallQ_k [0] (rtext_spec B1 hb1 (by omega)) ?_ ?_
            · rintro r ob' ⟨n, C, h, _⟩
              rw [hN] at h
              cases h
            · rintro v ob' ⟨e', B', h, rfl, rfl⟩
              rw [hN] at h
              cases h
              simp
              exact hpan _ _ _ _ rfl rfl herr
          · refine ⟨_, rfl, rfl, ?_⟩
            generalize hKK : vanyQ _ _ _ _ _ _ _ _ = KK
            simp
            refine vcallQ_k [0] (rtext_spec B1 hb1 (by omega)) ?_ ?_
            · rintro r ob' ⟨n, C, h, _⟩
              rw [hN] at h
              cases h
            · rintro v ob' ⟨e', B', h, rfl, rfl⟩
              rw [hN] at h
              cases h
              simp
              exact hpan _ _ _ _ rfl rfl herr
      · obtain ⟨x, hx⟩ : ∃ x : PV, x = ⟨0, strOfV (bts n)⟩ := ⟨_, rfl⟩
        have hvx : takeV (sL s) l.length B1 = .ok (x, C) := by rw [hvx, hN, hx]
        have hlt : C.length < B1.length := (takeT_byte hN hb1).2.1
        have hCb : byteL C := (takeT_byte hN hb1).1
        obtain ⟨g, hg1, hg2⟩ := allK_step hmo1 hvx hf1
        have hz : zerosV [.int .i64 0, .str ⟨#[]⟩] 1 = [.int .i64 0, .str ⟨#[]⟩] := rfl
        have hcap : ¬ (l.length * 2 < 2 * l.length) := by omega
        refine vwq_live [0, 1, 2, 6, 7, 8] (vwq_of (vwp_storm hT hm [.win 0 3, .pure, .mv, .mv, .mv, .mv, .mv] [[], [], [1], [1, 2], [1, 2, 3], [0, 1, 2, 3, 4], [0, 1, 2, 3, 4, 5]] (by kernel_rfl) ?_))
        simp [hcap, hz]
        repeat refine ⟨by first | assumption | omega | (intros; omega), ?_⟩
        refine ⟨.str (strOfV (bts n)), [rdr C, .live [.sl 3 (2 * l.length) 2 0 l.length], .live [.int .i64 0], .live (vcs l)], fun sl => ?_, ?_⟩
        · refine vcall_k [0] (rtext_ok hb1 (by omega) hN) ?_
          rintro r ob' ⟨rfl, rfl⟩
          simp
        simp [hcap, hz]
        repeat refine ⟨by first | assumption | omega | (intros; omega), ?_⟩
        refine ⟨.agg [.int .i64 0, .str (strOfV (bts n))], [rdr C, .live [.sl 3 (2 * l.length) 2 0 l.length], .live [.int .i64 0], .live (vcs l)], fun sl => ?_, ?_⟩
        · refine vcall_k [] (Text_spec (strOfV (bts n))) ?_
          rintro r ob' ⟨rfl, rfl⟩
          simp
        simp [hcap, hz]
        repeat refine ⟨by first | assumption | omega | (intros; omega), ?_⟩
        refine hK6 _ ?_
        try clear hK6 K6
        have w1 : IntKind.i64.wrap ((l.length : Int) + 1) = (l.length : Int) + 1 := w64 (by omega) (by omega)
        refine vwq_live [0, 1, 2, 6, 7, 8] (vwq_of (vwp_region hT ?_))
        simp [w1]
        exact hK3 ((l ++ [x], C)) _ (Gh.to_k [0, 1, 2, 6, 7, 8] [0, 1, 2, 3] (he := by simp) (hh := by simp [vcs_add, hx, Nat.mul_comm, Nat.add_mul])) (⟨hCb, by simp; omega, g, by dsimp only; omega, hal.trans hg1⟩) (hlt)
    · simp -failIfUnchanged at h1; all_goals
     have hmo1 : moreB (sL s) again l.length B1 = false := h1
     refine vwq_exit ?_
     simp only [inBlk, thenQ, if_true]
     refine hK1 _ ?_
     try clear hK1 K1
     refine vwq_seq_k fun K8 hK8 => ?_
     have hok := allR_ok (hal.trans (allK_end hmo1 hf1))
     refine vwq_sq [0, 6, 7] fun K9 hK9 => vwq_of (vwp_region hT ?_)
     simp
     refine hK9 _ ?_
     try clear hK9 K9
     refine vwq_cond (by first | rfl | (simp; rfl)) (fun h3 => ?_) fun h3 => ?_
     · simp -failIfUnchanged at h3; all_goals
      have hB1 : B1 ≠ [] := by rintro rfl; simp at h3
      rw [if_neg hB1] at hok
      refine vwq_region hT ?_
      simp
      exact hpan _ _ _ _ rfl rfl hok
     · simp -failIfUnchanged at h3; all_goals
      have hB1 : B1 = [] := by cases B1 <;> simp_all
      rw [if_pos hB1] at hok
      refine vwq_skip ?_
      refine hK8 _ ?_
      try clear hK8 K8
      refine vwq_sq [6, 7] fun K10 hK10 => vwq_of (vwp_region hT ?_)
      simp
      repeat refine ⟨by first | assumption | omega | (intros; omega), ?_⟩
      refine hK10 _ ?_
      try clear hK10 K10
      refine vwq_ret (hR _ _ ?_)
      exact ⟨rfl, rfl, rfl, l, hok, by subst hB1; simp⟩
end Go.Proofs.YtgmcflbbdpbkeaaDoor
