/- What a shipper is shown, all of it: the walk. -/
import Derived.Test.YtmpakfpmmkfgpaaLbF
import Derived.Test.YtmpakfpmmkfgpaaVXc
namespace Go.Proofs.Ytmpakfpmmkfgpaa
open Go Go.VX Go.RowKit
set_option linter.unusedVariables false
set_option linter.unusedSimpArgs false
set_option maxHeartbeats 20000000
set_option maxRecDepth 100000

def ownL (l : List Stp) (ow : Int) : List Stp := l.filter fun s => s.ow == ow
def ownLF (l : List Lft) (ow : Int) : List Int := (l.filter fun s => s.ow == ow).map (·.oi)
theorem ownL_take {l : List Stp} {i : Nat} {s : Stp} (h : l[i]? = some s) (ow : Int) : ownL (l.take (i + 1)) ow = ownL (l.take i) ow ++ (if s.ow = ow then [s] else []) := by
  rw [take_snoc h]; simp only [ownL, List.filter_append, List.filter_cons, List.filter_nil]; by_cases q : s.ow = ow <;> simp [q]
theorem ownLF_take {l : List Lft} {i : Nat} {s : Lft} (h : l[i]? = some s) (ow : Int) : ownLF (l.take (i + 1)) ow = ownLF (l.take i) ow ++ (if s.ow = ow then [s.oi] else []) := by
  rw [take_snoc h]; simp only [ownLF, List.filter_append, List.filter_cons, List.filter_nil, List.map_append]; by_cases q : s.ow = ow <;> simp [q]
theorem ownL_le (l : List Stp) (ow : Int) : (ownL l ow).length ≤ l.length := List.length_filter_le _ _
theorem ownLF_le (l : List Lft) (ow : Int) : (ownLF l ow).length ≤ l.length := by unfold ownLF; rw [List.length_map]; exact List.length_filter_le _ _
theorem ownS_ids {x : Whl} (h : (idsP x).Nodup) (ow : Int) : ((ownS x ow).map (·.oi)).Nodup :=
  ((List.nodup_append.1 h).1).sublist (List.filter_sublist.map _)
@[simp] theorem al_nofz (K : List Int) (bs : List Nat) (ck : Nat) : (Ob.map (alE K) bs ck).nofz = true := by simp [Ob.nofz, alE, V.nofz]
@[simp] theorem pl_nofz (M L : List Stp) (bs : List Nat) (ck : Nat) : (Ob.map (plE M L) bs ck).nofz = true := by simp [Ob.nofz, plE, V.nofz]
theorem grants_le (x : Whl) (po : Int) : (grantsP x po).length ≤ 4 := by
  unfold grantsP
  repeat' split
  all_goals simp
theorem rwC {l : List Rwx} {c : V} (hc : c ∈ rowsV l) : ∃ n, c = V.int .i64 n := by
  obtain ⟨a, _, h⟩ := List.mem_flatMap.1 hc
  simp at h
  rcases h with rfl | rfl | rfl | rfl <;> exact ⟨_, rfl⟩
theorem rw_noId {l : List Rwx} : ∀ c ∈ rowsV l, c.noId = true := by intro c hc; obtain ⟨n, rfl⟩ := rwC hc; rfl
theorem ints_noId {l : List Int} : ∀ c ∈ ints l, c.noId = true := by
  intro c hc
  obtain ⟨n, _, rfl⟩ := List.mem_map.1 hc
  rfl

def resV (q : Vw × Int) (r : V) (ob' : List Ob) : Prop :=
  if q.2 = 0 then r = .tup [.agg [.sl 0 (q.1.rs.length * 4) 4 0 q.1.rs.length, .sl 1 q.1.fs.length 1 0 q.1.fs.length, .int .i64 q.1.am, .int .i64 q.1.ru, .bool q.1.fe, .sl 2 q.1.gs.length 1 0 q.1.gs.length], .int .i64 0] ∧ ob' = [.live (rowsV q.1.rs), .live (ints q.1.fs), .live (ints q.1.gs)]
  else q.1 = Vw.zero ∧ r = .tup [.agg [.nils, .nils, .int .i64 0, .int .i64 0, .bool false, .nils], .int .i64 q.2] ∧ ob' = []
theorem showL_spec (x : Whl) (ow po : Int) (hs : x.ss.length < 1099511627776) (hf : x.fs.length < 1099511627776) (hl : x.ls.length < 1099511627776) : VC P 9 [.agg x.c, .int .i64 ow, .int .i64 po] [] (fun r ob' => resV (showP x ow po) r ob') := by
  refine VC_of_vwp_c hT ent_9 Try.func9 rfl (by simp) fun R hR => ?_
  refine vwp_sq [0, 1, 2] fun K1 hK1 => vwp_region hT ?_
  simp
  refine hK1 _ ?_
  try clear hK1 K1
  refine vwp_seq_k fun K2 hK2 => ?_
  refine vwp_block ?_
  refine vwp_sq [2, 3, 4, 6] fun K3 hK3 => vwp_region hT ?_
  simp
  refine hK3 _ ?_
  try clear hK3 K3
  refine vwp_cond (by first | rfl | (simp; rfl)) (fun h1 => ?_) fun h1 => ?_
  · simp -failIfUnchanged at h1; all_goals
   have q := h1
   refine vwp_sq [6] fun K4 hK4 => vwp_region hT ?_
   simp
   repeat refine ⟨by first | assumption | omega | (intros; omega), ?_⟩
   refine hK4 _ ?_
   try clear hK4 K4
   refine vwp_ret (hR _ _ ?_)
   have hw : showP x ow po = (Vw.zero, 1) := by
     unfold showP; rw [if_pos (by simp -failIfUnchanged at q; omega)]
   rw [hw]
   exact retc_only [] ([]) (p := True) (xs := [.agg [.nils, .nils, .int .i64 0, .int .i64 0, .bool false, .nils], .int .i64 1]) (xs' := [.agg [.nils, .nils, .int .i64 0, .int .i64 0, .bool false, .nils], .int .i64 1]) (by simp) trivial (by simp) (by simp) rfl (by simp) (by simp) rfl (by simp) (by rw [resV, if_neg (by decide)]; exact ⟨rfl, rfl, rfl⟩)
  · simp -failIfUnchanged at h1; all_goals
   have q := h1
   have hpo : 0 ≤ po ∧ po ≤ 15 := by simp -failIfUnchanged at q; omega
   refine vwp_sq [2, 3, 4, 6] fun K5 hK5 => vwp_region hT ?_
   simp
   refine vcall_z [] (twice_spec x hs hf) (by rintro r ob' ⟨rfl, rfl⟩; simp) ?_
   rintro r ob' ⟨rfl, rfl⟩
   simp
   refine hK5 _ ?_
   try clear hK5 K5
   refine vwp_cond (by first | rfl | (simp; rfl)) (fun h2 => ?_) fun h2 => ?_
   · simp -failIfUnchanged at h2; all_goals
    have q := h2
    refine vwp_sq [6] fun K6 hK6 => vwp_region hT ?_
    simp
    repeat refine ⟨by first | assumption | omega | (intros; omega), ?_⟩
    refine hK6 _ ?_
    try clear hK6 K6
    refine vwp_ret (hR _ _ ?_)
    have hw : showP x ow po = (Vw.zero, 6) := by
      unfold showP; rw [if_neg (by omega), if_pos (by simpa using q)]
    rw [hw]
    exact retc_only [] ([]) (p := True) (xs := [.agg [.nils, .nils, .int .i64 0, .int .i64 0, .bool false, .nils], .int .i64 6]) (xs' := [.agg [.nils, .nils, .int .i64 0, .int .i64 0, .bool false, .nils], .int .i64 6]) (by simp) trivial (by simp) (by simp) rfl (by simp) (by simp) rfl (by simp) (by rw [resV, if_neg (by decide)]; exact ⟨rfl, rfl, rfl⟩)
   · simp -failIfUnchanged at h2; all_goals
    have q := h2
    have hnd : (idsP x).Nodup := by simpa using q
    refine vwp_skip ?_
    refine hK2 _ ?_
    try clear hK2 K2
    refine vwp_sq [2, 3, 4, 6] fun K7 hK7 => vwp_region hT ?_
    simp
    refine hK7 _ ?_
    try clear hK7 K7
    refine vwp_seq_k fun K8 hK8 => ?_
    refine vwp_sq [2, 3, 4, 6, 8] fun K9 hK9 => vwp_region hT ?_
    simp
    refine hK9 _ ?_
    try clear hK9 K9
    refine vwp_block ?_
    refine vwp_loop_s (fun i : Nat => ⟨[(2, .int .i64 po), (3, .ptr 0 6 0), (4, .ptr 1 1 0), (6, .ptr 2 6 0), (8, .sl 3 ((ownL (x.ss.take i) ow).length * 4) 4 0 (ownL (x.ss.take i) ow).length), (32, fsV x.ss), (33, .int .i64 x.ss.length), (34, .int .i64 (i : Int))], [.live x.c, .live [.int .i64 ow], .live [.nils, .nils, .int .i64 0, .int .i64 0, .bool false, .nils], .live (rowsV (ownL (x.ss.take i) ow))]⟩) (fun i => i ≤ x.ss.length) (fun i => x.ss.length - i) (0) ((Gh.virt 8 4 (by simp)).trans (Gh.to_k [2, 3, 4, 6, 8, 32, 33, 34] [0, 1, 2, 3] (he := by simp [ownL]) (hh := by simp [ownL]))) (by omega) ?_
    rintro i hi
    have hol := ownL_le (x.ss.take i) ow
    rw [List.length_take, Nat.min_eq_left hi] at hol
    have hlo := lenStp (ownL (x.ss.take i) ow)
    intro K10 hK10
    refine vwp_sq [2, 3, 4, 6, 8, 32, 33, 34] fun K11 hK11 => vwp_region hT ?_
    simp
    refine hK11 _ ?_
    try clear hK11 K11
    refine vwp_seq_k fun K12 hK12 => ?_
    refine vwp_cond (by first | rfl | (simp; rfl)) (fun h3 => ?_) fun h3 => ?_
    · simp -failIfUnchanged at h3; all_goals
     refine vwp_skip ?_
     refine hK12 _ ?_
     try clear hK12 K12
     refine vwp_seq_k fun K13 hK13 => ?_
     refine vwp_block ?_
     obtain ⟨s, hs1⟩ := getI (l := x.ss) (i := i) (by omega)
     have hrow := rowStp hs1
     have hlen := lenStp x.ss
     refine vwp_sq [2, 3, 4, 6, 8, 32, 33, 34] fun K14 hK14 => vwp_region hT ?_
     simp [hrow, hlen]
     repeat refine ⟨by first | assumption | omega | (intros; omega), ?_⟩
     refine hK14 _ ?_
     try clear hK14 K14
     refine vwp_sq [2, 3, 4, 6, 8, 10, 32, 33, 34] fun K15 hK15 => vwp_region hT ?_
     simp
     refine hK15 _ ?_
     try clear hK15 K15
     refine vwp_cond (by first | rfl | (simp; rfl)) (fun h4 => ?_) fun h4 => ?_
     · simp -failIfUnchanged at h4; all_goals
      have q := h4
      have hq2 : s.ow = ow := by simpa using q
      refine vwp_live [2, 3, 4, 6, 8, 10, 32, 33, 34] (vwp_region hT ?_)
      simp [hlo, zerosV, spl, Nat.add_mul]
      repeat refine ⟨by first | assumption | omega | (intros; omega), ?_⟩
      refine hK13 _ ?_
      try clear hK13 K13
      have w1 : IntKind.i64.wrap ((i : Int) + 1) = i + 1 := w64 (by omega) (by omega)
      refine vwp_live [2, 3, 4, 6, 8, 32, 33, 34] (vwp_region hT ?_)
      simp [w1]
      exact hK10 (i + 1) _ (Gh.to_k [2, 3, 4, 6, 8, 32, 33, 34] [0, 1, 2, 3] (he := by simp [ownL_take hs1, hq2, Nat.add_mul]) (hh := by simp [ownL_take hs1, hq2, rowsV_append, rowsV_cons])) (by omega) (by omega)
     · simp -failIfUnchanged at h4; all_goals
      have q := h4
      have hq2 : ¬ s.ow = ow := by simpa using q
      refine vwp_skip ?_
      refine hK13 _ ?_
      try clear hK13 K13
      have w1 : IntKind.i64.wrap ((i : Int) + 1) = i + 1 := w64 (by omega) (by omega)
      refine vwp_live [2, 3, 4, 6, 8, 32, 33, 34] (vwp_region hT ?_)
      simp [w1]
      exact hK10 (i + 1) _ (Gh.to_k [2, 3, 4, 6, 8, 32, 33, 34] [0, 1, 2, 3] (he := by simp [ownL_take hs1, hq2, Nat.add_mul]) (hh := by simp [ownL_take hs1, hq2, rowsV_append, rowsV_cons])) (by omega) (by omega)
    · simp -failIfUnchanged at h3; all_goals
     refine vwp_exit ?_
     simp only [inBlk, thenQ, if_true]
     refine hK8 _ ?_
     try clear hK8 K8
     obtain rfl : i = x.ss.length := by omega
     rw [List.take_length] at hol hlo ⊢
     have hown := ownS_ids hnd ow
     rw [show ownL x.ss ow = ownS x ow from rfl] at hol hlo ⊢
     refine vwp_sq [2, 3, 4, 6, 8] fun K16 hK16 => vwp_region hT ?_
     simp
     refine vcall_k [3] (sortO_spec (ownS x ow) (by omega)) ?_
     rintro r ob' ⟨rfl, M0, hMp, hMs, rfl⟩
     obtain rfl := srtO_unique hown hMp hMs
     simp
     refine hK16 _ ?_
     try clear hK16 K16
     obtain ⟨hp0, hp15⟩ := hpo
     have hgl := grants_le x po
     have hSl : (srtO (ownS x ow)).length = (ownS x ow).length := (srtO_perm _).length_eq
     have hSlt := srtO_lt hown
     have hSp := srtO_perm (ownS x ow)
     obtain ⟨S, hS⟩ : ∃ S, S = srtO (ownS x ow) := ⟨_, rfl⟩
     rw [← hS] at hSl hSlt hSp ⊢
     rw [← hSl]
     refine vwp_sq [2, 3, 4, 6, 8] fun K17 hK17 => vwp_region hT ?_
     simp
     repeat refine ⟨by first | assumption | omega | (intros; omega), ?_⟩
     refine vcall_z [] (grants_spec x po hp0 hp15) (by rintro r ob' ⟨rfl, rfl⟩; simp) ?_
     rintro r ob' ⟨rfl, rfl⟩
     simp
     repeat refine ⟨by first | assumption | omega | (intros; omega), ?_⟩
     refine hK17 _ ?_
     try clear hK17 K17
     have htS : List.take (S.length * 4) (rowsV S) = rowsV S := List.take_of_length_le (by rw [lenStp]; omega)
     have hSn : (S.map (·.oi)).Nodup := ((hSp.map _).nodup_iff).2 hown
     refine vwp_sq [3, 4, 6, 8, 11] fun K18 hK18 => vwp_region hT ?_
     simp
     refine vcall_z [] (aliases_spec S (by omega)) (by rintro r ob' ⟨rfl, ab, ak, rfl⟩; exact ⟨rfl, fun o ho => by rw [List.mem_singleton] at ho; subst ho; exact al_nofz _ _ _⟩) ?_ (ha := by simp [htS]) (hok := by simp; exact ⟨lenStp S, fun c hc => by obtain ⟨n, rfl⟩ := stpC hc; rfl⟩)
     rintro r ob' ⟨rfl, ab, ak, rfl⟩
     simp
     refine vcall_z [] (places_spec S (by omega) hSn) (by rintro r ob' ⟨rfl, M, pb, pk, _, rfl⟩; exact ⟨rfl, fun o ho => by rw [List.mem_singleton] at ho; subst ho; exact pl_nofz _ _ _ _⟩) ?_ (ha := by simp [htS]) (hok := by simp; exact ⟨lenStp S, fun c hc => by obtain ⟨n, rfl⟩ := stpC hc; rfl⟩)
     rintro r ob' ⟨rfl, M, pb, pk, hMS, rfl⟩
     simp
     refine hK18 _ ?_
     try clear hK18 K18
     refine vwp_seq_k fun K19 hK19 => ?_
     have hlenS := lenStp S
     refine vwp_sq [3, 4, 6, 8, 11, 12, 13] fun K20 hK20 => vwp_region hT ?_
     simp [hlenS]
     refine hK20 _ ?_
     try clear hK20 K20
     refine vwp_block ?_
     obtain ⟨R0, hR0⟩ : ∃ R0, R0 = S.map (rowP (ownS x ow)) := ⟨_, rfl⟩
     have hRl : R0.length = S.length := by rw [hR0]; simp
     refine vwp_loop_s (fun i : Nat => ⟨[(3, .ptr 0 6 0), (4, .ptr 1 1 0), (6, .ptr 2 6 0), (11, .ptr 4 6 0), (12, .mp 5), (13, .mp 6), (57, .sl 3 (S.length * 4) 4 0 S.length), (58, .int .i64 S.length), (59, .int .i64 (i : Int))], [.live x.c, .live [.int .i64 ow], .live [.nils, .nils, .int .i64 0, .int .i64 0, .bool false, .nils], .live (rowsV S), .live [.sl 7 (i * 4) 4 0 i, .nils, .int .i64 0, .int .i64 0, .bool false, .sl 8 (grantsP x po).length 1 0 (grantsP x po).length], .map (alE (dd (S.map (·.tr)))) ab ak, .map (plE M M) pb pk, .live (rowsV (R0.take i)), .live (ints (grantsP x po))]⟩) (fun i => i ≤ S.length) (fun i => S.length - i) (0) ((Gh.virtC 5 0 4 rfl rfl).trans (Gh.to_k [3, 4, 6, 11, 12, 13, 57, 58, 59] [0, 1, 2, 3, 5, 6, 7, 8, 4] (he := by simp) (hh := by simp))) (by omega) ?_
     rintro i hi
     have hrl : (rowsV (R0.take i)).length = i * 4 := by rw [lenRwx, List.length_take, hRl, Nat.min_eq_left hi]
     intro K21 hK21
     refine vwp_sq [3, 4, 6, 11, 12, 13, 57, 58, 59] fun K22 hK22 => vwp_region hT ?_
     simp
     refine hK22 _ ?_
     try clear hK22 K22
     refine vwp_seq_k fun K23 hK23 => ?_
     refine vwp_cond (by first | rfl | (simp; rfl)) (fun h5 => ?_) fun h5 => ?_
     · simp -failIfUnchanged at h5; all_goals
      refine vwp_skip ?_
      refine hK23 _ ?_
      try clear hK23 K23
      refine vwp_seq_k fun K24 hK24 => ?_
      refine vwp_block ?_
      obtain ⟨s, hs1⟩ := getI (l := S) (i := i) (by omega)
      have hsm : s ∈ S := List.mem_of_getElem? hs1
      have hrow := rowStp hs1
      have hlen := lenStp S
      have hR1 : R0[i]? = some (rowP (ownS x ow) s) := by rw [hR0, List.getElem?_map, hs1]; rfl
      have hrp := rowP_perm hSp s
      obtain ⟨p1, hv1⟩ : ∃ p1, vfindK (.int .i64 s.tr) (alE (dd (S.map (·.tr)))) 0 = some (some (p1, .int .i64 (aliasP (ownS x ow) s))) := by
        have e1 : aliasP S s = aliasP (ownS x ow) s := congrArg Rwx.al hrp
        rcases vfind_al s.tr (dd (S.map (·.tr))) with ⟨h, _⟩ | ⟨p1, _, h⟩
        · exact absurd (dd_mem.2 (List.mem_map.2 ⟨s, hsm, rfl⟩)) h
        · exact ⟨p1, by rw [h, alias_idx hSlt hsm, e1]⟩
      obtain ⟨p2, hv2⟩ : ∃ p2, vfindK (.int .i64 s.oi) (plE M M) 0 = some (some (p2, .int .i64 (placeP (ownS x ow) s))) := by
        rcases vfind_map (fun s : Stp => s.oi) (fun s => V.int .i64 (placeP M s)) s.oi M 0 with ⟨h, _⟩ | ⟨p2, a, ha, ho, h⟩
        · exact absurd (List.mem_map.2 ⟨s, hMS.mem_iff.2 hsm, rfl⟩) h
        · obtain rfl := oi_inj hSlt (hMS.mem_iff.1 (List.mem_of_getElem? ha)) hsm ho
          rw [Nat.zero_add] at h
          exact ⟨p2, h.trans (by rw [placeP_perm hMS, placeP_perm hSp])⟩
      refine vwp_sq [3, 4, 6, 11, 12, 13, 57, 58, 59] fun K25 hK25 => vwp_region hT ?_
      simp [hrow, hlen]
      repeat refine ⟨by first | assumption | omega | (intros; omega), ?_⟩
      refine hK25 _ ?_
      try clear hK25 K25
      refine vwp_live [3, 4, 6, 11, 12, 13, 15, 57, 58, 59] (vwp_region hT ?_)
      simp [hv1, hv2, hrl, zerosV, spl]
      repeat refine ⟨by first | assumption | omega | (intros; omega), ?_⟩
      refine hK24 _ ?_
      try clear hK24 K24
      have w1 : IntKind.i64.wrap ((i : Int) + 1) = i + 1 := w64 (by omega) (by omega)
      refine vwp_live [3, 4, 6, 11, 12, 13, 57, 58, 59] (vwp_region hT ?_)
      simp [w1]
      exact hK21 (i + 1) _ (Gh.to_k [3, 4, 6, 11, 12, 13, 57, 58, 59] [0, 1, 2, 3, 4, 5, 6, 7, 8] (he := by simp) (hh := by simp [take_snoc hR1, rowsV_snoc, Nat.add_mul, rowP])) (by omega) (by omega)
     · simp -failIfUnchanged at h5; all_goals
      refine vwp_exit ?_
      simp only [inBlk, thenQ, if_true]
      refine hK19 _ ?_
      try clear hK19 K19
      refine vwp_seq_k fun K26 hK26 => ?_
      obtain rfl : i = S.length := by omega
      rw [show List.take S.length R0 = R0 from List.take_of_length_le (by omega)]
      refine vwp_sq [3, 4, 6, 11] fun K27 hK27 => vwp_region hT ?_
      simp
      refine hK27 _ ?_
      try clear hK27 K27
      refine vwp_block ?_
      refine vwp_loop_s (fun i : Nat => ⟨[(3, .ptr 0 6 0), (4, .ptr 1 1 0), (6, .ptr 2 6 0), (11, .ptr 3 6 0), (83, fsV x.fs), (84, .int .i64 x.fs.length), (85, .int .i64 (i : Int))], [.live x.c, .live [.int .i64 ow], .live [.nils, .nils, .int .i64 0, .int .i64 0, .bool false, .nils], .live [.sl 4 (S.length * 4) 4 0 S.length, .sl 5 (ownLF (x.fs.take i) ow).length 1 0 (ownLF (x.fs.take i) ow).length, .int .i64 0, .int .i64 0, .bool false, .sl 6 (grantsP x po).length 1 0 (grantsP x po).length], .live (rowsV R0), .live (ints (ownLF (x.fs.take i) ow)), .live (ints (grantsP x po))]⟩) (fun i => i ≤ x.fs.length) (fun i => x.fs.length - i) (0) ((Gh.virtC 4 1 1 rfl rfl).trans (Gh.to_k [3, 4, 6, 11, 83, 84, 85] [0, 1, 2, 4, 7, 9, 8] (he := by simp) (hh := by simp [ownLF]))) (by omega) ?_
      rintro i hi
      have hol2 := ownLF_le (x.fs.take i) ow
      rw [List.length_take, Nat.min_eq_left hi] at hol2
      intro K28 hK28
      refine vwp_sq [3, 4, 6, 11, 83, 84, 85] fun K29 hK29 => vwp_region hT ?_
      simp
      refine hK29 _ ?_
      try clear hK29 K29
      refine vwp_seq_k fun K30 hK30 => ?_
      refine vwp_cond (by first | rfl | (simp; rfl)) (fun h6 => ?_) fun h6 => ?_
      · simp -failIfUnchanged at h6; all_goals
       refine vwp_skip ?_
       refine hK30 _ ?_
       try clear hK30 K30
       refine vwp_seq_k fun K31 hK31 => ?_
       refine vwp_block ?_
       obtain ⟨s, hs1⟩ := getI (l := x.fs) (i := i) (by omega)
       have hrow := rowLft hs1
       have hlen := lenLft x.fs
       refine vwp_sq [3, 4, 6, 11, 83, 84, 85] fun K32 hK32 => vwp_region hT ?_
       simp [hrow, hlen]
       repeat refine ⟨by first | assumption | omega | (intros; omega), ?_⟩
       refine hK32 _ ?_
       try clear hK32 K32
       refine vwp_sq [3, 4, 6, 11, 17, 83, 84, 85] fun K33 hK33 => vwp_region hT ?_
       simp
       refine hK33 _ ?_
       try clear hK33 K33
       refine vwp_cond (by first | rfl | (simp; rfl)) (fun h7 => ?_) fun h7 => ?_
       · simp -failIfUnchanged at h7; all_goals
        have q := h7
        have hq2 : s.ow = ow := by simpa using q
        refine vwp_live [3, 4, 6, 11, 17, 83, 84, 85] (vwp_region hT ?_)
        simp [zerosV, spl]
        repeat refine ⟨by first | assumption | omega | (intros; omega), ?_⟩
        refine hK31 _ ?_
        try clear hK31 K31
        have w1 : IntKind.i64.wrap ((i : Int) + 1) = i + 1 := w64 (by omega) (by omega)
        refine vwp_live [3, 4, 6, 11, 83, 84, 85] (vwp_region hT ?_)
        simp [w1]
        exact hK28 (i + 1) _ (Gh.to_k [3, 4, 6, 11, 83, 84, 85] [0, 1, 2, 3, 4, 5, 6] (he := by simp [ownLF_take hs1, hq2]) (hh := by simp [ownLF_take hs1, hq2])) (by omega) (by omega)
       · simp -failIfUnchanged at h7; all_goals
        have q := h7
        have hq2 : ¬ s.ow = ow := by simpa using q
        refine vwp_skip ?_
        refine hK31 _ ?_
        try clear hK31 K31
        have w1 : IntKind.i64.wrap ((i : Int) + 1) = i + 1 := w64 (by omega) (by omega)
        refine vwp_live [3, 4, 6, 11, 83, 84, 85] (vwp_region hT ?_)
        simp [w1]
        exact hK28 (i + 1) _ (Gh.to_k [3, 4, 6, 11, 83, 84, 85] [0, 1, 2, 3, 4, 5, 6] (he := by simp [ownLF_take hs1, hq2]) (hh := by simp [ownLF_take hs1, hq2])) (by omega) (by omega)
      · simp -failIfUnchanged at h6; all_goals
       refine vwp_exit ?_
       simp only [inBlk, thenQ, if_true]
       refine hK26 _ ?_
       try clear hK26 K26
       obtain rfl : i = x.fs.length := by omega
       rw [List.take_length] at hol2 ⊢
       rw [show ownLF x.fs ow = ownF x ow from rfl] at hol2 ⊢
       refine vwp_sq [3, 4, 6, 11] fun K34 hK34 => vwp_region hT ?_
       simp
       refine vcall_k [5] (sort_spec (ownF x ow) (by omega)) ?_
       rintro r ob' ⟨rfl, rfl⟩
       simp
       refine hK34 _ ?_
       try clear hK34 K34
       refine vwp_seq_k fun K35 hK35 => ?_
       refine vwp_sq [3, 4, 6, 11] fun K36 hK36 => vwp_region hT ?_
       simp
       refine vcall_k [1] (index_spec x.ls hl ow) ?_
       rintro r ob' ⟨rfl, rfl⟩
       simp
       refine hK36 _ ?_
       try clear hK36 K36
       refine vwp_seq_k fun K37 hK37 => ?_
       rcases hfi : x.ls.findIdx? (fun s => s.ow == ow) with _ | j
       · have hlp : lineP x ow = ⟨0, 0, 0, false⟩ := by
           have := (List.find?_eq_none (p := fun l : Lin => l.ow == ow) (l := x.ls)).2 (fun a ha => by have := (List.findIdx?_eq_none_iff.1 hfi) a ha; simpa using this)
           rw [lineP, this]; rfl
         have hw : showP x ow po = (⟨R0, srt (ownF x ow), 0, 0, false, grantsP x po⟩, 0) := by
           rw [hR0, hS, showP, if_neg (by omega), if_neg (by simpa using hnd), hlp]
         refine vwp_live [3, 6, 11, 18] (vwp_region hT ?_)
         simp [hfi, oI]
         refine hK37 _ ?_
         try clear hK37 K37
         refine vwp_cond (by first | rfl | (simp; rfl)) (fun h8 => ?_) fun h8 => ?_
         · simp -failIfUnchanged at h8; all_goals
          simp_all
         · simp -failIfUnchanged at h8; all_goals
          refine vwp_skip ?_
          refine hK35 _ ?_
          try clear hK35 K35
          refine vwp_sq [6, 11] fun K38 hK38 => vwp_region hT ?_
          simp
          repeat refine ⟨by first | assumption | omega | (intros; omega), ?_⟩
          refine hK38 _ ?_
          try clear hK38 K38
          refine vwp_ret (hR _ _ ?_)
          rw [hw]
          exact retc_only [4, 5, 6] ([.live (rowsV R0), .live (ints (srt (ownF x ow))), .live (ints (grantsP x po))]) (p := True) (xs := [.agg [.sl 4 (S.length * 4) 4 0 S.length, .sl 5 (ownF x ow).length 1 0 (ownF x ow).length, .int .i64 0, .int .i64 0, .bool false, .sl 6 (grantsP x po).length 1 0 (grantsP x po).length], .int .i64 0]) (xs' := [.agg [.sl 0 (S.length * 4) 4 0 S.length, .sl 1 (ownF x ow).length 1 0 (ownF x ow).length, .int .i64 0, .int .i64 0, .bool false, .sl 2 (grantsP x po).length 1 0 (grantsP x po).length], .int .i64 0]) (by simp) trivial (by simp) (by simp) rfl (by simp) (by simp) rfl (by simp) (by rw [resV, if_pos rfl]; simp [hRl, tupV])
       · obtain ⟨hj1, hj2, hj3⟩ := List.findIdx?_eq_some_iff_getElem.1 hfi
         obtain ⟨s, hs1⟩ := getI hj1
         have hse := (List.getElem?_eq_some_iff.1 hs1).2
         obtain ⟨hg0, hg1, hg2, hg3⟩ := getLin hs1
         have hlen := lenLin x.ls
         have li : j * 4 + 3 < x.ls.length * 4 := by omega
         have hlp : lineP x ow = s := by
           have : x.ls.find? (fun l => l.ow == ow) = some s := List.find?_eq_some_iff_getElem.2 ⟨by simpa [hse] using hj2, j, hj1, hse, fun k hk => by simpa using hj3 k hk⟩
           rw [lineP, this]; rfl
         have hw : showP x ow po = (⟨R0, srt (ownF x ow), s.am, s.ru, s.fe, grantsP x po⟩, 0) := by
           rw [hR0, hS, showP, if_neg (by omega), if_neg (by simpa using hnd), hlp]
         refine vwp_live [3, 6, 11, 18] (vwp_region hT ?_)
         simp [hfi, oI]
         refine hK37 _ ?_
         try clear hK37 K37
         refine vwp_cond (by first | rfl | (simp; rfl)) (fun h9 => ?_) fun h9 => ?_
         · simp -failIfUnchanged at h9; all_goals
          refine vwp_live [3, 6, 11, 18] (vwp_storm hT hm [.win 0 0, .win 0 0, .pure, .win 0 0, .win 0 0, .win 0 0, .win 0 1, .win 0 1, .pure, .win 0 1, .win 0 1, .win 0 1, .win 0 2, .win 0 2, .pure, .win 0 2, .win 0 2, .win 0 2, .win 0 0, .mv, .win 1 1, .mv, .win 2 2, .mv] [[], [0], [], [0, 1, 2], [0, 1, 2, 3], [0, 1, 2, 3, 4], [], [6], [], [6, 7, 8], [6, 7, 8, 9], [6, 7, 8, 9, 10], [], [12], [], [12, 13, 14], [12, 13, 14, 15], [12, 13, 14, 15, 16], [0, 1, 2, 3, 4, 5], [0, 1, 2, 3, 4, 5, 18], [0, 1, 2, 3, 4, 5, 6, 7, 8, 9, 10, 11, 18, 19], [0, 1, 2, 3, 4, 5, 6, 7, 8, 9, 10, 11, 18, 19, 20], [0, 1, 2, 3, 4, 5, 6, 7, 8, 9, 10, 11, 12, 13, 14, 15, 16, 17, 18, 19, 20, 21], [0, 1, 2, 3, 4, 5, 6, 7, 8, 9, 10, 11, 12, 13, 14, 15, 16, 17, 18, 19, 20, 21, 22]] (by kernel_rfl) ?_)
          simp [hg1, hg2, hg3, hlen]
          repeat refine ⟨by first | assumption | omega | (intros; omega), ?_⟩
          refine hK35 _ ?_
          try clear hK35 K35
          refine vwp_sq [6, 11] fun K39 hK39 => vwp_region hT ?_
          simp
          repeat refine ⟨by first | assumption | omega | (intros; omega), ?_⟩
          refine hK39 _ ?_
          try clear hK39 K39
          refine vwp_ret (hR _ _ ?_)
          rw [hw]
          exact retc_only [4, 5, 6] ([.live (rowsV R0), .live (ints (srt (ownF x ow))), .live (ints (grantsP x po))]) (p := True) (xs := [.agg [.sl 4 (S.length * 4) 4 0 S.length, .sl 5 (ownF x ow).length 1 0 (ownF x ow).length, .int .i64 s.am, .int .i64 s.ru, .bool s.fe, .sl 6 (grantsP x po).length 1 0 (grantsP x po).length], .int .i64 0]) (xs' := [.agg [.sl 0 (S.length * 4) 4 0 S.length, .sl 1 (ownF x ow).length 1 0 (ownF x ow).length, .int .i64 s.am, .int .i64 s.ru, .bool s.fe, .sl 2 (grantsP x po).length 1 0 (grantsP x po).length], .int .i64 0]) (by simp) trivial (by simp) (by simp) rfl (by simp) (by simp) rfl (by simp) (by rw [resV, if_pos rfl]; simp [hRl, tupV])
         · simp -failIfUnchanged at h9; all_goals
          refine vwp_skip ?_
          refine hK35 _ ?_
          try clear hK35 K35
          refine vwp_seq_k fun K40 hK40 => ?_
          simp_all

theorem agg_nilV {E : Env} {v : Value} (h : VRep E (.agg [.nils, .nils, .int .i64 0, .int .i64 0, .bool false, .nils]) v) : VRep E (.agg Vw.zero.cells) v := by
  obtain ⟨a, h1, u, r, e1, o1, h2, u2, r2, e2, o2, h3, u3, r3, e3, o3, h4, u4, r4, e4, o4, h5, u5, r5, e5, o5, h6, u6, r6, e6, o6, h7, h8⟩ := h
  exact ⟨a, h1, u, r, e1, rfl, h2.nil_fs, u2, r2, e2, rfl, h3.nil_fs, u3, r3, e3, o3, h4, u4, r4, e4, o4, h5, u5, r5, e5, o5, h6, u6, r6, e6, rfl, h7.nil_fs, h8⟩
theorem nilaggV {k : Nat} {x : V} {ob : List Ob} {Q : V → List Ob → Prop} (h : VC P k [x, .agg Vw.zero.cells] ob Q) : VC P k [x, .agg [.nils, .nils, .int .i64 0, .int .i64 0, .bool false, .nils]] ob Q := by
  refine h.weak fun E vals h => ?_
  obtain ⟨u, r, e1, a1, h1, u2, r2, e2, a2, h2, h3⟩ := h
  exact ⟨u, r, e1, a1, h1, u2, r2, e2, trivial, agg_nilV h2, h3⟩
theorem show_spec (x : Whl) (ow po : Int) (hs : x.ss.length < 1099511627776) (hf : x.fs.length < 1099511627776) (hl : x.ls.length < 1099511627776) : VC P 9 [.agg x.c, .int .i64 ow, .int .i64 po] [] (fun r ob' => r = .tup [.agg (showP x ow po).1.cells, .int .i64 (showP x ow po).2] ∧ ob' = []) := by
  refine VC.wk (VC.frzT (Q' := fun r ob' => (r = .tup [.agg (showP x ow po).1.cells, .int .i64 (showP x ow po).2] ∨ ((showP x ow po).1 = Vw.zero ∧ r = .tup [.agg [.nils, .nils, .int .i64 0, .int .i64 0, .bool false, .nils], .int .i64 (showP x ow po).2])) ∧ ob' = []) (showL_spec x ow po hs hf hl) fun r ob' q => ?_) fun r ob' q => ?_
  · unfold resV at q
    split at q
    · rename_i h0
      obtain ⟨rfl, rfl⟩ := q
      have h1 := lenRwx (showP x ow po).1.rs
      have h2 : List.take ((showP x ow po).1.rs.length * 4) (rowsV (showP x ow po).1.rs) = rowsV (showP x ow po).1.rs := List.take_of_length_le (by omega)
      exact ⟨_, rfl, by simp; exact ⟨h1, rw_noId⟩, rfl, .inl (by simp [h0, h2]), rfl⟩
    · obtain ⟨hz, rfl, rfl⟩ := q
      exact ⟨_, rfl, by simp, rfl, .inr ⟨hz, rfl⟩, rfl⟩
  · rcases q with ⟨rfl | ⟨hz, rfl⟩, rfl⟩
    · exact ⟨_, fun _ _ h => h, rfl, rfl⟩
    · refine ⟨.tup [.agg (showP x ow po).1.cells, .int .i64 (showP x ow po).2], fun E v h => ?_, rfl, rfl⟩
      rw [hz]
      obtain ⟨a, _, e1, u, r, e2, _, h2, h3⟩ := h
      exact ⟨a, rfl, e1, u, r, e2, trivial, agg_nilV h2, h3⟩
end Go.Proofs.Ytmpakfpmmkfgpaa
