/- A certificate that holds is at most what a plan costs: in plain. -/
import Derived.Test.YtinigjmfjabicaaBdD
import Derived.Test.YtinigjmfjabicaaOnt
namespace Go.Proofs.Ytinigjmfjabicaa
open Go Go.VX Go.RowKit
set_option linter.unusedVariables false
set_option linter.unusedSimpArgs false
set_option maxHeartbeats 20000000
set_option maxRecDepth 100000

theorem perm_sum {a b : List Int} (h : a.Perm b) : a.sum = b.sum := by
  induction h with
  | nil => rfl
  | cons x _ ih => simp only [List.sum_cons, ih]
  | swap x y l => simp only [List.sum_cons]; omega
  | trans _ _ h1 h2 => rw [h1, h2]
theorem lea_le2 {l : List Int} {x : Int} (h : x ∈ l) : lea l ≤ x := (le_lea (List.ne_nil_of_mem h)).1 (Int.le_refl _) x h
theorem sum_nonneg : ∀ {D : List Int}, (∀ n ∈ D, 0 ≤ n) → 0 ≤ D.sum
  | [], _ => by simp
  | x :: D, h => by
    have h1 := h x (by simp)
    have h2 := sum_nonneg (D := D) fun n hn => h n (by simp [hn])
    rw [List.sum_cons]
    omega
/-! ### Orders that are picked -/
theorem pick_row {os : List Od} : ∀ {l : List Int} {L : List Od}, pick os l = some L → ∀ (i : Nat) id, l[i]? = some id → ∃ o q, L[i]? = some o ∧ fndO os id = some q ∧ os[q]? = some o
  | [], L, _, i, id, h => by simp at h
  | x :: l, L, h, i, id, hi => by
    simp only [pick] at h
    split at h
    · cases h
    rename_i q hq
    split at h
    · cases h
    rename_i o ho
    cases hp : pick os l with
    | none => rw [hp] at h; cases h
    | some L2 =>
      rw [hp] at h
      cases h
      cases i with
      | zero => simp at hi; subst hi; exact ⟨o, q, rfl, hq, ho⟩
      | succ i => simpa using pick_row hp i id (by simpa using hi)
theorem pick_ids {os : List Od} {l : List Int} {L : List Od} (h : pick os l = some L) : L.map (·.id) = l := by
  apply List.ext_getElem (by rw [List.length_map]; exact (pick_len _ h).1)
  intro i h1 h2
  obtain ⟨o, q, ho, hq, hoq⟩ := pick_row h i l[i] (List.getElem?_eq_getElem h2)
  obtain ⟨o2, ho2, he⟩ := fndO_some hq
  rw [hoq] at ho2
  cases ho2
  rw [List.getElem_map, (List.getElem?_eq_some_iff.1 ho).2, he]
/-- An order of one list is the same order of another list that has its name. -/
theorem pick_mem {os : List Od} {l m : List Int} {L M : List Od} (h : pick os l = some L) (hm : pick os m = some M) (hs : ∀ id ∈ l, id ∈ m) : ∀ o ∈ L, o ∈ M := by
  intro o ho
  obtain ⟨i, hi⟩ := List.mem_iff_getElem?.1 ho
  have hil : i < l.length := by rw [← (pick_len _ h).1]; exact (List.getElem?_eq_some_iff.1 hi).1
  obtain ⟨o1, q1, h1, h2, h3⟩ := pick_row h i l[i] (List.getElem?_eq_getElem hil)
  rw [hi] at h1
  cases h1
  obtain ⟨j, hj⟩ := List.mem_iff_getElem?.1 (hs l[i] (List.getElem_mem _))
  obtain ⟨o2, q2, h4, h5, h6⟩ := pick_row hm j l[i] hj
  rw [h2] at h5
  cases h5
  rw [h3] at h6
  cases h6
  exact List.mem_of_getElem? h4
/-! ### What leads to an order, by its name -/
def incJ (w : Wd) (L : List Od) (id : Int) : Int := match fndO L id with
  | some i => (match L[i]? with | some o => inP w L i o | none => 0)
  | none => 0
theorem fnd_self {L : List Od} (hn : (L.map (·.id)).Nodup) {i : Nat} {o : Od} (h : L[i]? = some o) : fndO L o.id = some i := by
  obtain ⟨hi, ho⟩ := List.getElem?_eq_some_iff.1 h
  unfold fndO
  rw [List.findIdx?_eq_some_iff_getElem]
  refine ⟨hi, by simp [ho], fun j hj => ?_⟩
  have hjl : j < L.length := by omega
  have h1 := List.pairwise_iff_getElem.1 hn j i (by rw [List.length_map]; exact hjl) (by rw [List.length_map]; exact hi) hj
  rw [List.getElem_map, List.getElem_map, ho] at h1
  simpa using h1
theorem incJ_at {w : Wd} {L : List Od} (hn : (L.map (·.id)).Nodup) {i : Nat} {o : Od} (h : L[i]? = some o) : incJ w L o.id = inP w L i o := by
  unfold incJ
  rw [fnd_self hn h]
  dsimp only
  rw [h]
theorem inF_inc {w : Wd} {L : List Od} (hn : (L.map (·.id)).Nodup) : inF w L L.length = (L.map (·.id)).map (incJ w L) := by
  apply List.ext_getElem (by rw [inF_len w L _ (Nat.le_refl _)]; simp)
  intro i h1 h2
  have hi : i < L.length := by simpa using h2
  have hg := List.getElem?_eq_getElem hi
  have h3 := inF_get (w := w) hg
  rw [(List.getElem?_eq_some_iff.1 h3).2, List.getElem_map, List.getElem_map, incJ_at hn hg]
theorem inc_depot {w : Wd} {L : List Od} (hn : (L.map (·.id)).Nodup) {b : Od} (hb : b ∈ L) : incJ w L b.id ≤ lg w.n w.D 0 b.nd := by
  obtain ⟨i, hi⟩ := List.mem_iff_getElem?.1 hb
  rw [incJ_at hn hi]
  exact lea_le2 (List.mem_map.2 ⟨0, by simp [inL], rfl⟩)
theorem inc_from {w : Wd} {L : List Od} (hn : (L.map (·.id)).Nodup) {a b : Od} (ha : a ∈ L) (hb : b ∈ L) (hne : a.id ≠ b.id) : incJ w L b.id ≤ lg w.n w.D a.nd b.nd := by
  obtain ⟨i, hi⟩ := List.mem_iff_getElem?.1 hb
  obtain ⟨j, hj⟩ := List.mem_iff_getElem?.1 ha
  rw [incJ_at hn hi]
  have hji : j ≠ i := by rintro rfl; rw [hi] at hj; cases hj; exact hne rfl
  exact lea_le2 (List.mem_map.2 ⟨a.nd, List.mem_cons_of_mem _ (List.mem_map.2 ⟨a, List.mem_eraseIdx_iff_getElem?.2 ⟨j, hji, hj⟩, rfl⟩), rfl⟩)
/-! ### What a trip drives -/
theorem goR_ds {w : Wd} {L : List Od} (hn : (L.map (·.id)).Nodup) : ∀ (l : List Od) (s : Rn), (∀ o ∈ l, o ∈ L) → (l.map (·.id)).Nodup → (s.nd = 0 ∨ ∃ a ∈ L, a.nd = s.nd ∧ a.id ∉ l.map (·.id)) →
    s.ds + ((l.map (·.id)).map (incJ w L)).sum ≤ (goR w.n w.D w.T s l).ds ∧ (l ≠ [] → ∃ o ∈ L, (goR w.n w.D w.T s l).nd = o.nd)
  | [], s, _, _, _ => ⟨by simp [goR], fun h => absurd rfl h⟩
  | o :: r, s, hm, hnd, hs => by
    have hoL := hm o (by simp)
    rw [List.map_cons, List.nodup_cons] at hnd
    have hleg : incJ w L o.id ≤ lg w.n w.D s.nd o.nd := by
      rcases hs with h | ⟨a, ha, he, hni⟩
      · rw [h]; exact inc_depot hn hoL
      · rw [← he]; exact inc_from hn ha hoL (fun e => hni (by simp [e]))
    have ih := goR_ds (w := w) hn r (s.step w.n w.D w.T o) (fun x hx => hm x (by simp [hx])) hnd.2 (.inr ⟨o, hoL, rfl, hnd.1⟩)
    have hds : (s.step w.n w.D w.T o).ds = s.ds + lg w.n w.D s.nd o.nd := rfl
    rw [hds] at ih
    refine ⟨?_, fun _ => ?_⟩
    · simp only [goR, List.map_cons, List.sum_cons]
      have := ih.1
      omega
    · simp only [goR]
      cases r with
      | nil => exact ⟨o, hoL, rfl⟩
      | cons x r => exact ih.2 (by simp)
/-- What a trip costs at least. -/
theorem run_less {w : Wd} {L : List Od} {S : List Int} (hp : pick w.os S = some L) (hS : S.Nodup) {r : Rt} {t : Tr} {e : Int} (h : runP w r = (some t, e)) (hs : ∀ id ∈ r.st, id ∈ S) (hb : 0 ≤ (r.st.map (incJ w L)).sum + leaNd w L) :
    lea (w.ts.map (·.fx)) + lea (w.ts.map (·.ra)) * ((r.st.map (incJ w L)).sum + leaNd w L) ≤ t.co := by
  obtain ⟨_, hok, k, tk, M, _, htk, hpm, hrn, h1, _, _, htp⟩ := runP_some h
  have hn : (L.map (·.id)).Nodup := by rw [pick_ids hp]; exact hS
  have hMi := pick_ids hpm
  have hg := goR_ds (w := w) hn M (Wd.s0 tk) (pick_mem hpm hp hs) (by rw [hMi]; exact hrn) (.inl rfl)
  rw [hMi] at hg
  have hMne : M ≠ [] := by rintro rfl; rw [List.map_nil] at hMi; rw [← hMi] at h1; simp at h1
  obtain ⟨o, hoL, hoe⟩ := hg.2 hMne
  have hback : leaNd w L ≤ lg w.n w.D o.nd 0 := lea_le2 (List.mem_map.2 ⟨o, hoL, rfl⟩)
  have hds0 : (Wd.s0 tk).ds = 0 := rfl
  have hg1 := hg.1
  rw [hds0] at hg1
  have hfx : lea (w.ts.map (·.fx)) ≤ tk.fx := lea_le2 (List.mem_map.2 ⟨tk, List.mem_of_getElem? htk, rfl⟩)
  have hra : lea (w.ts.map (·.ra)) ≤ tk.ra := lea_le2 (List.mem_map.2 ⟨tk, List.mem_of_getElem? htk, rfl⟩)
  have hra0 := (ra_bounds hok).1
  unfold tripP at htp
  split at htp
  · cases htp
  have hco := (Prod.mk.inj htp).1
  have hco2 := congrArg Tr.co (Option.some.inj hco)
  dsimp only at hco2
  rw [← hco2, hoe]
  generalize lea (w.ts.map (·.fx)) = FX at *
  generalize lea (w.ts.map (·.ra)) = RA at *
  generalize (r.st.map (incJ w L)).sum = A at *
  generalize (goR w.n w.D w.T (Wd.s0 tk) M).ds = G at *
  generalize lg w.n w.D o.nd 0 = B at *
  generalize leaNd w L = N at *
  have m1 : RA * (A + N) ≤ RA * (G + B) := Int.mul_le_mul_of_nonneg_left (by omega) hra0
  have m2 : RA * (G + B) ≤ tk.ra * (G + B) := Int.mul_le_mul_of_nonneg_right hra (by omega)
  omega
theorem runs_less {w : Wd} {L : List Od} {S : List Int} (hok : w.ok) (hp : pick w.os S = some L) (hS : S.Nodup) (hJ : ∀ id ∈ S, 0 ≤ incJ w L id) (hN : 0 ≤ leaNd w L) : ∀ {l : List Rt} {cs : List Int} {e : Int}, runsP w l = (some cs, e) → (∀ id ∈ catR l, id ∈ S) → l ≠ [] →
    lea (w.ts.map (·.fx)) + lea (w.ts.map (·.ra)) * (((catR l).map (incJ w L)).sum + leaNd w L) ≤ cs.sum
  | [], _, _, _, _, h => absurd rfl h
  | r :: l, cs, e, h, hs, _ => by
    simp only [runsP] at h
    split at h
    · cases h
    rename_i t e2 hr
    split at h
    · cases h
    rename_i cs2 e3 hl
    cases h
    have hcat : catR (r :: l) = r.st ++ catR l := by simp [catR]
    rw [hcat] at hs ⊢
    have hnn : ∀ {m : List Int}, (∀ id ∈ m, id ∈ S) → 0 ≤ (m.map (incJ w L)).sum := by
      intro m hm
      induction m with
      | nil => simp
      | cons x m ih =>
        have a1 := hJ x (hm x (by simp))
        have a2 := ih fun id h => hm id (by simp [h])
        simp only [List.map_cons, List.sum_cons]
        omega
    have n1 := hnn (m := r.st) fun id h => hs id (by simp [h])
    have n2 := hnn (m := catR l) fun id h => hs id (by simp [h])
    have h1 := run_less hp hS hr (fun id h => hs id (by simp [h])) (by omega)
    rw [List.map_append, List.sum_append, List.sum_cons]
    have hfx0 := (fx_bounds hok).1
    have hra0 := (ra_bounds hok).1
    by_cases hle : l = []
    · subst hle
      have hcs : cs2 = [] := by simp [runsP] at hl; exact hl.1
      subst hcs
      have hz : ((catR ([] : List Rt)).map (incJ w L)).sum = 0 := rfl
      rw [hz, Int.add_zero]
      simp only [List.sum_nil, Int.add_zero]
      exact h1
    · have h2 := runs_less hok hp hS hJ hN hl (fun id h => hs id (by simp [h])) hle
      generalize lea (w.ts.map (·.fx)) = FX at *
      generalize lea (w.ts.map (·.ra)) = RA at *
      generalize (r.st.map (incJ w L)).sum = A at *
      generalize ((catR l).map (incJ w L)).sum = B at *
      generalize leaNd w L = N at *
      have m1 : RA * (A + N) + RA * (B + N) = RA * (A + B + N) + RA * N := by rw [← Int.mul_add, ← Int.mul_add]; congr 1; omega
      have m2 : 0 ≤ RA * N := Int.mul_nonneg hra0 hN
      omega
/-- What is made of the orders that a plan serves is at most what the plan costs. -/
theorem made_less {w : Wd} {p : Pn} {t : Ct} {e : Int} (h : (checkP w p).2 = 0) (hm : makeP w (servP p) = (some t, e)) : 0 ≤ t.bo ∧ t.bo ≤ (checkP w p).1 := by
  obtain ⟨hok, _, cs, hrs, _, hcn, _, hck⟩ := checkP_ok h
  obtain ⟨_, _, hnd, L, hpk, htc, hLl, hL12, hLo, hLn⟩ := makeP_some hm
  rw [hck]
  have hcb := (runsP_co hrs).2
  by_cases hL : L = []
  · have ht : t.bo = 0 := by rw [htc, hL]; rfl
    have := sum_nonneg (D := cs) fun n hn => (hcb n hn).1
    rw [ht]; exact ⟨Int.le_refl _, this⟩
  · have hbo : t.bo = lea (w.ts.map (·.fx)) + lea (w.ts.map (·.ra)) * ((inF w L L.length).sum + leaNd w L) := by rw [htc]; unfold mkC; rw [if_neg hL]
    have hS : (srt (servP p)).Nodup := (srt_perm _).nodup_iff.2 hnd
    have hpc : (srt (servP p)).Perm (catR p.rs) := (srt_perm _).trans (srt_perm _)
    have hn : (L.map (·.id)).Nodup := by rw [pick_ids hpk]; exact hS
    have hib := inF_bounds (w := w) hok.A hLn L.length
    have hN := (leaNd_bounds (w := w) hok.A hLn).1
    have hfx0 := (fx_bounds hok).1
    have hra0 := (ra_bounds hok).1
    have hin := inF_inc (w := w) hn
    rw [pick_ids hpk] at hin
    have hsum : (inF w L L.length).sum = ((catR p.rs).map (incJ w L)).sum := by rw [hin]; exact perm_sum (hpc.map _)
    have hJ : ∀ id ∈ srt (servP p), 0 ≤ incJ w L id := fun id hid => (hib _ (by rw [hin]; exact List.mem_map.2 ⟨id, hid, rfl⟩)).1
    have hne : p.rs ≠ [] := by
      intro e0
      rw [e0] at hpc
      have := hpc.length_eq
      rw [← pick_ids hpk, List.length_map] at this
      exact hL (List.length_eq_zero_iff.1 (by simpa [catR] using this))
    have hle := runs_less hok hpk hS hJ hN hrs (fun id hid => hpc.mem_iff.2 hid) hne
    have hs0 := sum_nonneg (D := inF w L L.length) fun n hn => (hib n hn).1
    rw [hbo]
    have hm0 : 0 ≤ lea (w.ts.map (·.ra)) * ((inF w L L.length).sum + leaNd w L) := Int.mul_nonneg hra0 (by omega)
    rw [← hsum] at hle
    exact ⟨by omega, hle⟩
/-- A certificate that holds has no greater bound than the one that is made. -/
theorem holds_less {w : Wd} {c t : Ct} {e : Int} (h : holdsP w c = true) (hm : makeP w c.ids = (some t, e)) : c.ids = t.ids ∧ 0 ≤ c.bo ∧ c.bo ≤ t.bo := by
  obtain ⟨_, hok, hnd, L, hpk, htc, hLl, hL12, hLo, hLn⟩ := makeP_some hm
  have htf : t.fine := by rw [htc]; exact mkC_fine hok hL12 hLn
  unfold holdsP at h
  rw [hm] at h
  simp only [Bool.and_eq_true, decide_eq_true_eq, wiB, beq_iff_eq] at h
  obtain ⟨hid, hil, hin, ⟨hba, hra, hfx⟩, hbo⟩ := h
  have hle : ∀ (a b : List Int), a.length = b.length → inOK a b = true → 0 ≤ a.sum ∧ a.sum ≤ b.sum := by
    intro a
    induction a with
    | nil => intro b hb _; cases b with
      | nil => simp
      | cons y b => simp at hb
    | cons x a ih =>
      intro b hb hi
      cases b with
      | nil => simp at hb
      | cons y b =>
        simp only [inOK, List.zip_cons_cons, List.all_cons, Bool.and_eq_true, wiB, decide_eq_true_eq] at hi
        have := ih b (by simpa using hb) (by simpa [inOK, wiB] using hi.2)
        simp only [List.sum_cons]
        omega
  have hs := hle _ _ hil hin
  have hto : t.bo = t.fx + t.ra * (t.inn.sum + t.ba) := by
    rw [htc]; unfold mkC
    split
    · simp
    · rfl
  rw [hbo, hto]
  unfold Ct.worth
  have m1 : c.ra * (c.inn.sum + c.ba) ≤ c.ra * (t.inn.sum + t.ba) := Int.mul_le_mul_of_nonneg_left (by omega) hra.1
  have m2 : c.ra * (t.inn.sum + t.ba) ≤ t.ra * (t.inn.sum + t.ba) := Int.mul_le_mul_of_nonneg_right hra.2 (by omega)
  have m3 : 0 ≤ c.ra * (c.inn.sum + c.ba) := Int.mul_nonneg hra.1 (by omega)
  exact ⟨hid.symm, by omega, by omega⟩
end Go.Proofs.Ytinigjmfjabicaa
