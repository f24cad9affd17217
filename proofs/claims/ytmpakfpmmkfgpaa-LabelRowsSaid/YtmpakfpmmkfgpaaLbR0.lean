/- The law LabelRows: plain. -/
import Derived.Test.YtmpakfpmmkfgpaaLbN
namespace Go.Proofs.Ytmpakfpmmkfgpaa
open Go Go.VX Go.RowKit
set_option linter.unusedVariables false
set_option linter.unusedSimpArgs false
set_option maxHeartbeats 20000000
set_option maxRecDepth 100000
theorem showP_small {x : Whl} {ow po : Int} (hx : lrgP x = false) : (showP x ow po).1.small := by
  have h1 : x.ss.length ≤ 60 ∧ x.fs.length ≤ 60 := by
    simp only [lrgP, Bool.or_eq_false_iff, decide_eq_false_iff_not] at hx; omega
  have hz : Vw.zero.small := ⟨by decide, by decide, by decide⟩
  unfold showP
  split
  · exact hz
  split
  · exact hz
  · refine ⟨?_, ?_, ?_⟩
    · show ((srtO (ownS x ow)).map _).length ≤ 60
      rw [List.length_map, (srtO_perm _).length_eq]
      exact Nat.le_trans (ownL_le x.ss ow) h1.1
    · show (srt (ownF x ow)).length ≤ 60
      rw [srt_len]
      exact Nat.le_trans (ownLF_le x.fs ow) h1.2
    · exact Nat.le_trans (grants_le x po) (by omega)

theorem showP_rows {x : Whl} {ow po : Int} {V : Vw} (h : showP x ow po = (V, 0)) : (idsP x).Nodup ∧ V.rs = (srtO (ownS x ow)).map (rowP (ownS x ow)) := by
  unfold showP at h
  split at h
  · cases h
  split at h
  · cases h
  rename_i hn
  cases h
  exact ⟨Classical.not_not.1 hn, rfl⟩
theorem showP_bad {x : Whl} {ow po : Int} {V : Vw} {e : Int} (h : showP x ow po = (V, e)) (he : e ≠ 0) : V = Vw.zero := by
  unfold showP at h
  split at h
  · cases h; rfl
  split at h
  · cases h; rfl
  · cases h; exact absurd rfl he
theorem dd_pre (l m : List Int) : ∃ r, dd (l ++ m) = dd l ++ r := by
  induction m using foldl_snoc_ind with
  | h0 => exact ⟨[], by simp⟩
  | h1 m t ih =>
    obtain ⟨r, hr⟩ := ih
    rw [← List.append_assoc, dd_snoc, hr]
    unfold addN
    split
    · exact ⟨r, rfl⟩
    · exact ⟨r ++ [t], by rw [List.append_assoc]⟩
theorem alias_O {S O : List Stp} (hs : S.Pairwise fun a b => a.oi < b.oi) (hp : S.Perm O) {s : Stp} (h : s ∈ S) : aliasP O s = ((dd (S.map (·.tr))).idxOf s.tr : Int) + 1 := by
  rw [alias_idx hs h]
  exact (congrArg Rwx.al (rowP_perm hp s)).symm
theorem top_step {S O : List Stp} (hs : S.Pairwise fun a b => a.oi < b.oi) (hp : S.Perm O) {i : Nat} {s : Stp} (h : S[i]? = some s) :
    1 ≤ aliasP O s ∧ aliasP O s ≤ (dd ((S.take i).map (·.tr))).length + 1 ∧ max ((dd ((S.take i).map (·.tr))).length : Int) (aliasP O s) = (dd ((S.take (i + 1)).map (·.tr))).length := by
  have e := alias_O hs hp (List.mem_of_getElem? h)
  have hD : dd ((S.take (i + 1)).map (·.tr)) = addN (dd ((S.take i).map (·.tr))) s.tr := by rw [take_snoc h, List.map_append, List.map_cons, List.map_nil, dd_snoc]
  obtain ⟨r, hr⟩ := dd_pre ((S.take (i + 1)).map (·.tr)) ((S.drop (i + 1)).map (·.tr))
  rw [← List.map_append, List.take_append_drop, hD] at hr
  rw [hD]
  rw [hr] at e
  obtain ⟨D, hDD⟩ : ∃ D, D = dd ((S.take i).map (·.tr)) := ⟨_, rfl⟩
  rw [← hDD] at e ⊢
  unfold addN at e ⊢
  by_cases q : s.tr ∈ D
  · rw [if_pos q] at e ⊢
    rw [List.idxOf_append, if_pos q] at e
    have := List.idxOf_lt_length_iff.2 q
    rw [e]
    refine ⟨by omega, by omega, ?_⟩
    rw [Int.max_eq_left (by omega)]
  · rw [if_neg q] at e ⊢
    rw [List.append_assoc, List.idxOf_append, if_neg q] at e
    have h0 : List.idxOf s.tr ([s.tr] ++ r) = 0 := by simp
    rw [h0] at e
    rw [List.length_append, List.length_singleton]
    refine ⟨by omega, by omega, ?_⟩
    rw [Int.max_eq_right (by omega)]
    omega
theorem al_inj {S O : List Stp} (hs : S.Pairwise fun a b => a.oi < b.oi) (hp : S.Perm O) {s t : Stp} (h1 : s ∈ S) (h2 : t ∈ S) : aliasP O s = aliasP O t ↔ s.tr = t.tr := by
  rw [alias_O hs hp h1, alias_O hs hp h2]
  constructor
  · intro h
    have e : (dd (S.map (·.tr))).idxOf s.tr = (dd (S.map (·.tr))).idxOf t.tr := by omega
    have m1 : s.tr ∈ dd (S.map (·.tr)) := dd_mem.2 (List.mem_map.2 ⟨s, h1, rfl⟩)
    have m2 : t.tr ∈ dd (S.map (·.tr)) := dd_mem.2 (List.mem_map.2 ⟨t, h2, rfl⟩)
    have g1 := List.getElem_idxOf (List.idxOf_lt_length_iff.2 m1)
    have g2 := List.getElem_idxOf (List.idxOf_lt_length_iff.2 m2)
    rw [← g1, ← g2]
    simp only [e]
  · intro h; rw [h]
theorem countP_le_of {α : Type} {p q : α → Bool} : ∀ {l : List α}, (∀ y ∈ l, p y = true → q y = true) → l.countP p ≤ l.countP q := fun h => List.countP_mono_left h
theorem countP_lt_of {α : Type} {p q : α → Bool} {l : List α} (h : ∀ y ∈ l, p y = true → q y = true) {a : α} (ha : a ∈ l) (hq : q a = true) (hp : p a = false) : l.countP p < l.countP q := by
  obtain ⟨s, t, rfl⟩ := List.append_of_mem ha
  rw [List.countP_append, List.countP_append, List.countP_cons, List.countP_cons, hq, hp]
  have h1 := countP_le_of (l := s) (p := p) (q := q) fun y hy => h y (by simp [hy])
  have h2 := countP_le_of (l := t) (p := p) (q := q) fun y hy => h y (by simp [hy])
  simp
  omega
theorem lex_tr {a b c : Stp} (h1 : lexB a b = true) (h2 : lexB b c = true) : lexB a c = true := by
  simp only [lexB, Bool.or_eq_true, Bool.and_eq_true, decide_eq_true_eq] at *; omega
theorem lex_ir (a : Stp) : lexB a a = false := by simp [lexB]
theorem lex_tot {a b : Stp} (h : a.oi ≠ b.oi) : lexB a b = true ∨ lexB b a = true := by
  simp only [lexB, Bool.or_eq_true, Bool.and_eq_true, decide_eq_true_eq]; omega
theorem place_lt {O : List Stp} {a b : Stp} (ha : a ∈ O) (ht : a.tr = b.tr) (h : lexB a b = true) : placeP O a < placeP O b := by
  have : O.countP (pB a) < O.countP (pB b) := by
    refine countP_lt_of (fun y _ hy => ?_) ha ?_ ?_
    · simp only [pB, Bool.and_eq_true, decide_eq_true_eq] at hy ⊢
      exact ⟨by rw [hy.1, ht], lex_tr hy.2 h⟩
    · simp [pB, ht, h]
    · simp [pB, lex_ir]
  show 1 + ((O.countP (pB a) : Nat) : Int) < 1 + ((O.countP (pB b) : Nat) : Int)
  omega
theorem place_le {O : List Stp} {s : Stp} (hs : s ∈ O) : 1 ≤ placeP O s ∧ placeP O s ≤ (O.countP fun y => decide (y.tr = s.tr) : Nat) := by
  have : O.countP (pB s) < O.countP (fun y => decide (y.tr = s.tr)) := countP_lt_of (fun y _ hy => by
    simp only [pB, Bool.and_eq_true] at hy; exact hy.1) hs (by simp) (by simp [pB, lex_ir])
  show 1 ≤ 1 + ((O.countP (pB s) : Nat) : Int) ∧ 1 + ((O.countP (pB s) : Nat) : Int) ≤ _
  omega
/-- All that the law asks of a row, and of one ahead of it. -/
theorem row_ok {S O : List Stp} (hs : S.Pairwise fun a b => a.oi < b.oi) (hp : S.Perm O) {s : Stp} (h : s ∈ S) : 1 ≤ (rowP O s).pl ∧ (rowP O s).pl ≤ ((((S.map (rowP O)).map (·.al)).count (rowP O s).al : Nat) : Int) := by
  obtain ⟨h1, h2⟩ := place_le (hp.mem_iff.1 h)
  have e : ((S.map (rowP O)).map (·.al)).count (rowP O s).al = O.countP fun y => decide (y.tr = s.tr) := by
    rw [List.map_map, List.count, List.countP_map, ← countP_perm hp]
    refine List.countP_congr fun y hy => ?_
    have := al_inj hs hp hy h
    show (aliasP O y == aliasP O s) = true ↔ _
    rw [beq_iff_eq, decide_eq_true_eq]
    exact this
  rw [e]
  exact ⟨h1, h2⟩
theorem pair_ok {S O : List Stp} (hs : S.Pairwise fun a b => a.oi < b.oi) (hp : S.Perm O) {s t : Stp} (h1 : s ∈ S) (h2 : t ∈ S) (hne : t.oi ≠ s.oi) (ht : t.tr = s.tr) :
    (rowP O t).pl ≠ (rowP O s).pl ∧ (t.et ≠ s.et → (t.et < s.et ↔ (rowP O t).pl < (rowP O s).pl)) := by
  have m1 := hp.mem_iff.1 h1
  have m2 := hp.mem_iff.1 h2
  rcases lex_tot hne with q | q
  · have := place_lt m2 ht q
    have this : (rowP O t).pl < (rowP O s).pl := this
    refine ⟨by omega, fun he => ⟨fun _ => this, fun _ => ?_⟩⟩
    simp only [lexB, Bool.or_eq_true, Bool.and_eq_true, decide_eq_true_eq] at q; omega
  · have := place_lt m1 ht.symm q
    have this : (rowP O s).pl < (rowP O t).pl := this
    refine ⟨by omega, fun he => ⟨fun h => ?_, fun h => by omega⟩⟩
    simp only [lexB, Bool.or_eq_true, Bool.and_eq_true, decide_eq_true_eq] at q; omega
def tmE (L : List Stp) : List (V × V) := L.map fun s => (V.int .i64 s.oi, V.int .i64 s.tr)
@[simp] theorem rnO_tm (f : Nat → Nat) (K : List Stp) (bs : List Nat) (ck : Nat) : rnO f (.map (tmE K) bs ck) = .map (tmE K) bs ck := rnO_mp f K _ _ bs ck
theorem vfind_tm {O : List Stp} (hn : (O.map (·.oi)).Nodup) {s : Stp} (h : s ∈ O) : ∃ p, vfindK (.int .i64 s.oi) (tmE O) 0 = some (some (p, .int .i64 s.tr)) := by
  rcases vfind_map (fun s : Stp => s.oi) (fun s => V.int .i64 s.tr) s.oi O 0 with ⟨q, _⟩ | ⟨p, a, ha, ho, q⟩
  · exact absurd (List.mem_map.2 ⟨s, h, rfl⟩) q
  · have : a = s := by
      obtain ⟨j, hj⟩ := List.mem_iff_getElem?.1 h
      have e1 : (O.map (·.oi))[p]? = some s.oi := by rw [List.getElem?_map, ha]; simp [ho]
      have e2 : (O.map (·.oi))[j]? = some s.oi := by rw [List.getElem?_map, hj]; rfl
      have := (List.getElem?_inj (List.getElem?_eq_some_iff.1 e1).1 hn).1 (e1.trans e2.symm)
      subst this
      rw [ha] at hj; exact Option.some.inj hj
    subst this
    rw [Nat.zero_add] at q
    exact ⟨p, q⟩
end Go.Proofs.Ytmpakfpmmkfgpaa
