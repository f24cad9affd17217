/- What is so of a plan that may be: in plain. -/
import Derived.Test.YtinigjmfjabicaaPlT
namespace Go.Proofs.Ytinigjmfjabicaa
open Go Go.VX Go.RowKit
set_option linter.unusedVariables false
set_option linter.unusedSimpArgs false
set_option maxHeartbeats 20000000
set_option maxRecDepth 100000

theorem checkP_ok {w : Wd} {p : Pn} (h : (checkP w p).2 = 0) : w.ok ∧ p.rs.length ≤ 6 ∧ ∃ cs, runsP w p.rs = (some cs, 0) ∧ (trs p.rs).Nodup ∧ (catR p.rs).Nodup ∧ p.un = restP w p ∧ checkP w p = (cs.sum, 0) := by
  have h0 := h
  unfold checkP at h
  split at h
  · rename_i he; exact absurd h he
  rename_i he
  have hok : w.ok := Wd.e_zero.1 (Classical.byContradiction he)
  split at h
  · cases h
  rename_i h6
  split at h
  · rename_i e hr
    exfalso
    have : ∀ {l : List Rt} {e : Int}, runsP w l = (none, e) → e ≠ 0 := by
      intro l
      induction l with
      | nil => intro e h; simp [runsP] at h
      | cons r l ih =>
        intro e h
        simp only [runsP] at h
        split at h
        · rename_i hr; cases h; exact runP_none hr
        · split at h
          · rename_i hl; cases h; exact ih hl
          · cases h
    exact this hr h
  · rename_i cs e hr
    split at h
    · cases h
    rename_i hd
    split at h
    · cases h
    rename_i hu
    have hd1 : (trs p.rs).Nodup ∧ (catR p.rs).Nodup := by
      simp only [Bool.or_eq_true, not_or, dupB, Bool.not_eq_true', decide_eq_false_iff_not, Classical.not_not] at hd
      exact hd
    have he0 : runsP w p.rs = (some cs, 0) := by
      have : ∀ {l : List Rt} {cs : List Int} {e : Int}, runsP w l = (some cs, e) → e = 0 := by
        intro l
        induction l with
        | nil => intro cs e h; simp [runsP] at h; exact h.2.symm
        | cons r l ih =>
          intro cs e h
          simp only [runsP] at h
          split at h
          · cases h
          · split at h
            · cases h
            · cases h; rfl
      rw [hr, this hr]
    have hu2 : p.un = restP w p := Classical.byContradiction hu
    refine ⟨hok, by omega, cs, he0, hd1.1, hd1.2, hu2, ?_⟩
    unfold checkP
    rw [if_neg he, if_neg h6, hr]
    dsimp only
    rw [if_neg hd, if_neg hu]
theorem runsP_zero {w : Wd} : ∀ {l : List Rt} {cs : List Int} {e : Int}, runsP w l = (some cs, e) → e = 0
  | [], cs, e, h => by simp [runsP] at h; exact h.2.symm
  | r :: l, cs, e, h => by
    simp only [runsP] at h
    split at h
    · cases h
    · split at h
      · cases h
      · cases h; rfl
theorem runsP_at {w : Wd} : ∀ {l : List Rt} {cs : List Int} {e : Int}, runsP w l = (some cs, e) → ∀ (i : Nat) r, l[i]? = some r → ∃ t, runP w r = (some t, 0) ∧ cs[i]? = some t.co
  | [], cs, e, _, i, r, h => by simp at h
  | r0 :: l, cs, e, h, i, r, hr => by
    simp only [runsP] at h
    split at h
    · cases h
    rename_i t e2 hr0
    split at h
    · cases h
    rename_i cs2 e3 hl
    cases h
    cases i with
    | zero =>
      simp at hr; subst hr
      obtain ⟨he, _⟩ := runP_some hr0
      subst he
      exact ⟨t, hr0, rfl⟩
    | succ i => simpa using runsP_at hl i r (by simpa using hr)
theorem pick_in {os : List Od} : ∀ {l : List Int} {L : List Od}, pick os l = some L → ∀ id ∈ l, id ∈ os.map (·.id)
  | [], L, _, id, h => by cases h
  | x :: l, L, h, id, hid => by
    simp only [pick] at h
    split at h
    · cases h
    rename_i i hi
    split at h
    · cases h
    cases hp : pick os l with
    | none => rw [hp] at h; cases h
    | some L2 =>
      rcases List.mem_cons.1 hid with rfl | hid
      · obtain ⟨o, h1, h2⟩ := fndO_some hi
        exact List.mem_map.2 ⟨o, List.mem_of_getElem? h1, h2⟩
      · exact pick_in hp id hid
theorem checkP_bad {w : Wd} {p : Pn} : (checkP w p).2 ≠ 0 → (checkP w p).1 = 0 := by
  unfold checkP
  split
  · intro _; rfl
  split
  · intro _; rfl
  split
  · intro _; rfl
  split
  · intro _; rfl
  split
  · intro _; rfl
  · intro h; exact absurd rfl h
theorem run_stops {w : Wd} {r : Rt} {t : Tr} {e : Int} (h : runP w r = (some t, e)) : ∀ id ∈ r.st, id ∈ w.os.map (·.id) := by
  obtain ⟨_, _, _, _, _, _, _, hp, _⟩ := runP_some h
  exact pick_in hp
theorem cat_sub {w : Wd} {l : List Rt} {cs : List Int} {e : Int} (h : runsP w l = (some cs, e)) : ∀ id ∈ catR l, id ∈ w.os.map (·.id) := by
  intro id hid
  obtain ⟨r, hr, hi⟩ := List.mem_flatMap.1 hid
  obtain ⟨i, hi2⟩ := List.mem_iff_getElem?.1 hr
  obtain ⟨t, ht, _⟩ := runsP_at h i r hi2
  exact run_stops ht id hi
theorem unsF_mem {os : List Od} {C : List Int} {x : Int} : x ∈ unsF os C ↔ x ∈ os.map (·.id) ∧ x ∉ C := by
  unfold unsF
  rw [List.mem_filter]
  simp [← hasB_mem]
/-- All orders, once. -/
theorem all_once {w : Wd} {C : List Int} (hn : (w.os.map (·.id)).Nodup) (hc : C.Nodup) (hs : ∀ id ∈ C, id ∈ w.os.map (·.id)) : (C ++ srt (unsF w.os C)).Perm (w.os.map (·.id)) := by
  have h1 : (C ++ srt (unsF w.os C)).Perm (C ++ unsF w.os C) := (srt_perm _).append_left C
  refine h1.trans ((List.perm_ext_iff_of_nodup ?_ hn).2 fun x => ?_)
  · rw [List.nodup_append]
    refine ⟨hc, hn.sublist List.filter_sublist, fun a ha b hb => ?_⟩
    rintro rfl
    exact (unsF_mem.1 hb).2 ha
  · rw [List.mem_append, unsF_mem]
    constructor
    · rintro (h | h)
      · exact hs x h
      · exact h.1
    · intro h
      by_cases q : x ∈ C
      · exact .inl q
      · exact .inr ⟨h, q⟩
end Go.Proofs.Ytinigjmfjabicaa
