/- Which entries of a map have been gone through. -/
import Derived.Test.YthjpaongoflgiaaVXCell
namespace Go.VX
open Go.RowKit
set_option linter.unusedVariables false
set_option linter.unusedSimpArgs false

/-- What is always so of a map. -/
theorem vwp_map {P : Program} {nt : Sh} {c : Code} {Q : X → St → Prop} {sl : List (Nat × V)} {ob : List Ob} (m : Nat) {es : List (V × V)} {bs : List Nat} {ck : Nat} (ho : ob[m]? = some (.map es bs ck))
    (h : es.length = bs.length → bs.Nodup → (∀ n ∈ bs, n < ck) → vwp P nt c Q ⟨sl, ob⟩) : vwp P nt c Q ⟨sl, ob⟩ := by
  intro C hC Φ H a w s
  have hr := s.hs.sim.rep m _ ho
  obtain ⟨q0, b, arr, g1, g2, g3, g4, g5, g6, g7, g8⟩ := hr
  refine h ?_ g7 g8 C hC Φ H a w s
  have := g4.length
  rw [← g6]
  simp at this ⊢
  omega

structure Seen (bs seen is : List Nat) : Prop where
  nd : is.Nodup
  lt : ∀ i ∈ is, i < bs.length
  eq : seen = is.map fun i => bs.getD i 0
theorem Seen.nil (bs : List Nat) : Seen bs [] [] := ⟨by simp, by simp, rfl⟩
theorem Seen.step {bs seen is : List Nat} (h : Seen bs seen is) {i n : Nat} (hi : bs[i]? = some n) (hn : n ∉ seen) : Seen bs (seen ++ [n]) (is ++ [i]) := by
  have hlt : i < bs.length := (List.getElem?_eq_some_iff.1 hi).1
  have hg : bs.getD i 0 = n := by simp [List.getD_eq_getElem?_getD, hi]
  refine ⟨?_, ?_, by rw [h.eq]; simp [hi]⟩
  · rw [List.nodup_append]
    refine ⟨h.nd, by simp, fun a ha b hb => ?_⟩
    simp only [List.mem_singleton] at hb
    subst hb
    intro e
    subst e
    exact hn (by rw [h.eq]; exact List.mem_map.2 ⟨a, ha, hg⟩)
  · intro j hj
    simp only [List.mem_append, List.mem_singleton] at hj
    rcases hj with q | q
    · exact h.lt j q
    · omega
theorem Seen.all {bs seen is : List Nat} (h : Seen bs seen is) (hb : bs.Nodup) (hall : ∀ n ∈ bs, n ∈ seen) : is.Perm (List.range bs.length) := by
  rw [List.perm_ext_iff_of_nodup h.nd List.nodup_range]
  intro i
  rw [List.mem_range]
  refine ⟨h.lt i, fun hi => ?_⟩
  have h1 := hall bs[i] (List.getElem_mem hi)
  rw [h.eq] at h1
  obtain ⟨j, hj, e⟩ := List.mem_map.1 h1
  have hjl := h.lt j hj
  have e2 : bs[j] = bs[i] := by simpa [List.getD_eq_getElem?_getD, List.getElem?_eq_getElem hjl] using e
  have : j = i := by
    have hp := List.pairwise_iff_getElem.1 hb
    rcases Nat.lt_trichotomy j i with q | q | q
    · exact absurd e2 (hp j i hjl hi q)
    · exact q
    · exact absurd e2.symm (hp i j hi hjl q)
  rwa [this] at hj
theorem Seen.fresh {bs seen is : List Nat} (h : Seen bs seen is) {i n : Nat} (hi : bs[i]? = some n) (hn : n ∉ seen) : i ∉ is := fun q => hn (by
  rw [h.eq]
  exact List.mem_map.2 ⟨i, q, by simp [List.getD_eq_getElem?_getD, hi]⟩)

/-- How many of those gone through are so. -/
def cntIs {α : Type} (p : α → Bool) (l : List α) (is : List Nat) : Nat := is.countP fun i => match l[i]? with
  | some a => p a
  | none => false
theorem cntIs_step {α : Type} (p : α → Bool) (l : List α) (is : List Nat) {i : Nat} {a : α} (h : l[i]? = some a) : cntIs p l (is ++ [i]) = cntIs p l is + (if p a = true then 1 else 0) := by
  simp [cntIs, List.countP_append, h, List.countP_cons]
theorem cntIs_range {α : Type} (p : α → Bool) : ∀ (l : List α), cntIs p l (List.range l.length) = l.countP p
  | [] => by simp [cntIs]
  | a :: l => by
    have := cntIs_range p l
    unfold cntIs at this ⊢
    simp only [List.length_cons, List.range_succ_eq_map, List.countP_cons, List.countP_map, Function.comp_def, List.getElem?_cons_succ, List.getElem?_cons_zero]
    rw [this]
theorem cntIs_all {α : Type} (p : α → Bool) {l : List α} {bs seen is : List Nat} (h : Seen bs seen is) (hb : bs.Nodup) (hl : l.length = bs.length) (hall : ∀ n ∈ bs, n ∈ seen) : cntIs p l is = l.countP p := by
  rw [← cntIs_range p l, hl]
  exact (h.all hb hall).countP_eq _
theorem cntIs_le {α : Type} (p : α → Bool) (l : List α) (is : List Nat) : cntIs p l is ≤ is.length := List.countP_le_length
theorem Seen.le {bs seen is : List Nat} (h : Seen bs seen is) : is.length ≤ bs.length := by
  have h1 : is.length = (List.filter (fun i => decide (i ∈ is)) (List.range bs.length)).length := by
    refine (List.Perm.length_eq ?_)
    rw [List.perm_ext_iff_of_nodup h.nd (List.nodup_range.filter _)]
    intro i
    simp only [List.mem_filter, List.mem_range, decide_eq_true_eq]
    exact ⟨fun q => ⟨h.lt i q, q⟩, fun q => q.2⟩
  rw [h1]
  exact Nat.le_trans (List.length_filter_le _ _) (by simp)

/-- A row that isn't there yet, in an object. -/
theorem Gh.virtC {nt : Sh} {sl : List (Nat × V)} {ob : List Ob} (id j esz : Nat) {cs : List V} (ho : ob[id]? = some (.live cs)) (hj : cs[j]? = some .nils) :
    Gh nt ⟨sl, ob⟩ ⟨sl, (ob ++ [Ob.live []]).set id (.live (cs.set j (.sl ob.length 0 esz 0 0)))⟩ := by
  intro C hC Φ H a w s
  have hst : HStep Φ H ob w Φ (upd H ob.length none) (ob ++ [Ob.live []]) w :=
    HStep.ofPush s.hs.sim rfl rfl rfl (fun _ _ => rfl) (Nat.le_refl _) (fun b hb => by cases hb) (fun E' _ _ _ => rfl)
  have s' := s.step hst
  have hid : id < ob.length := (List.getElem?_eq_some_iff.1 ho).1
  have ho' : (ob ++ [Ob.live []])[id]? = some (.live cs) := by rw [List.getElem?_append_left hid]; exact ho
  have hr := s'.hs.sim.rep id _ ho'
  have hst2 : HStep Φ (upd H ob.length none) (ob ++ [Ob.live []]) w Φ (upd (upd H ob.length none) id ((upd H ob.length none) id)) ((ob ++ [Ob.live []]).set id (.live (cs.set j (.sl ob.length 0 esz 0 0)))) w := by
    refine HStep.ofChange s'.hs.sim ho' rfl rfl rfl rfl (fun _ _ _ => rfl) (Nat.le_refl _) (fun b hb => hb) (fun b hb => .inl hb) (fun b hb => .inl hb) (fun T' hT' => ?_) (fun E' hE hw hΦ => ?_)
    · exact ⟨cs.length, rfl, by simp [Ob.len] at hT'; omega, fun _ => ⟨rfl, fun _ _ => rfl⟩⟩
    · cases hH : (upd H ob.length none) id with
      | none =>
        rw [hH] at hr
        have : cs = [] := hr
        subst this
        simp at hj
      | some b =>
        rw [hH] at hr
        obtain ⟨c, el, g1, g2, g3, g4⟩ := hr
        refine ⟨c, el, by rw [hw]; exact g1, by rw [hΦ]; exact g2, by simpa using g3, ?_⟩
        rw [List.length_set]
        obtain ⟨u, k1, _, k2⟩ := g4.get j _ hj
        simp only [VRep] at k2
        subst k2
        have hv : VRep (mkE Φ (upd H ob.length none) (ob ++ [Ob.live []]) w) (.sl ob.length 0 esz 0 0) (.slice none 0 0) := by
          refine ⟨rfl, by simp [mkE], fun T' hT' => ⟨by simp, fun _ => ?_⟩⟩
          simp only [mkE, upd_same, SlV]
          simp
        have := g4.set j (x := .sl ob.length 0 esz 0 0) rfl hv
        have e : (c.toList.take cs.length).set j (.slice none 0 0) = c.toList.take cs.length := by
          apply List.ext_getElem?
          intro i
          rw [List.getElem?_set]
          split
          · rename_i hij
            subst hij
            split
            · exact k1.symm
            · rename_i hlt; rw [List.getElem?_eq_none (by omega)]
          · rfl
        rw [e] at this
        exact VReps.ext hE _ _ this
  exact ⟨_, _, s'.step hst2⟩
end Go.VX
