/- Nodes that are all as far from one another: in plain. -/
import Derived.Test.YtinigjmfjabicaaBdH
namespace Go.Proofs.Ytinigjmfjabicaa
open Go Go.VX Go.RowKit
set_option linter.unusedVariables false
set_option linter.unusedSimpArgs false
set_option maxHeartbeats 20000000
set_option maxRecDepth 100000

theorem ints_nid {l : List Int} : ∀ c ∈ ints l, c.noId = true := by
  intro c hc
  obtain ⟨n, _, rfl⟩ := List.mem_map.1 hc
  rfl
/-! ### The distances that are made -/
def farAt (n far : Int) (k : Nat) : Int := if 0 < n ∧ (k : Int).tdiv n ≠ (k : Int).tmod n then far else 0
def farL (n far : Int) (L i : Nat) : List Int := (List.range L).map fun k => if k < i then farAt n far k else 0
theorem farL_len (n far : Int) (L i : Nat) : (farL n far L i).length = L := by simp [farL]
theorem farL_zero (n far : Int) (L : Nat) : farL n far L 0 = List.replicate L 0 := by
  apply List.ext_getElem (by simp [farL])
  intro k h1 h2
  simp [farL]
theorem farL_step {n far : Int} {L i : Nat} : farL n far L (i + 1) = (farL n far L i).set i (farAt n far i) := by
  apply List.ext_getElem (by simp [farL])
  intro k h1 h2
  simp only [farL, List.getElem_map, List.getElem_range, List.getElem_set]
  by_cases e : i = k
  · subst e; simp
  · rw [if_neg e]
    by_cases q : k < i
    · rw [if_pos q, if_pos (by omega)]
    · rw [if_neg q, if_neg (by omega)]
theorem farL_skip {n far : Int} {L i : Nat} (h : farAt n far i = 0) : farL n far L (i + 1) = farL n far L i := by
  apply List.ext_getElem (by simp [farL])
  intro k h1 h2
  simp only [farL, List.getElem_map, List.getElem_range]
  by_cases e : i = k
  · subst e; simp [h]
  · by_cases q : k < i
    · rw [if_pos q, if_pos (by omega)]
    · rw [if_neg q, if_neg (by omega)]
def Wd.fr (w : Wd) (far : Int) : Wd := ⟨w.n, farL w.n far w.D.length w.D.length, w.T, w.os, w.ts⟩
theorem far_lg {w : Wd} {far : Int} (hA : areaB (w.fr far).n (w.fr far).D (w.fr far).T = true) {f t : Int} (hf : 0 ≤ f ∧ f < w.n) (ht : 0 ≤ t ∧ t < w.n) : lg (w.fr far).n (w.fr far).D f t = if f = t then 0 else far := by
  obtain ⟨m, hm, _, f', t', e3, e4, h1, h2, _, hl, _, hD, _⟩ := lg_get hA hf ht
  have hlt := at_lt h1 h2
  have hl2 : w.D.length = m * m := by rw [← hl]; simp [Wd.fr, farL_len]
  have h3 : (w.fr far).D[f' * m + t']? = some (farAt w.n far (f' * m + t')) := by
    have : f' * m + t' < w.D.length := by omega
    simp [Wd.fr, farL, this]
  rw [h3] at hD
  have hm2 : w.n = m := hm
  rw [← Option.some.inj hD, hm2]
  have e1 : (f' * m + t') / m = f' := by rw [Nat.mul_comm, Nat.mul_add_div (by omega), Nat.div_eq_of_lt h2]; omega
  have e2 : (f' * m + t') % m = t' := by rw [Nat.mul_comm, Nat.mul_add_mod, Nat.mod_eq_of_lt h2]
  have d1 : (((f' * m + t' : Nat) : Int)).tdiv (m : Int) = (((f' * m + t') / m : Nat) : Int) := rfl
  have d2 : (((f' * m + t' : Nat) : Int)).tmod (m : Int) = (((f' * m + t') % m : Nat) : Int) := rfl
  unfold farAt
  rw [d1, d2, e1, e2, e3, e4]
  by_cases e : f' = t'
  · subst e; rw [if_neg (by simp), if_pos rfl]
  · rw [if_pos (by omega), if_neg (by omega)]
theorem lea_le {l : List Int} {x : Int} (h : x ∈ l) : lea l ≤ x := (le_lea (List.ne_nil_of_mem h)).1 (Int.le_refl _) x h
/-- What leads to an order, where all is as far. -/
theorem inP_far {w : Wd} {far : Int} (hf : 0 ≤ far) (hA : areaB (w.fr far).n (w.fr far).D (w.fr far).T = true) {L : List Od} (hL : ∀ o ∈ L, 1 ≤ o.nd ∧ o.nd < w.n) {i : Nat} {o : Od} (ho : L[i]? = some o) : inP (w.fr far) L i o = if o.nd ∈ (L.eraseIdx i).map (·.nd) then 0 else far := by
  have hn := areaB_n hA
  have hno := hL o (List.mem_of_getElem? ho)
  have hn2 : (w.fr far).n = w.n := rfl
  have hall : ∀ f ∈ inL L i, 0 ≤ f ∧ f < w.n := by
    intro f hf
    rcases List.mem_cons.1 hf with rfl | hf
    · omega
    · obtain ⟨o2, h1, rfl⟩ := List.mem_map.1 hf
      have := hL o2 (List.mem_of_mem_eraseIdx h1)
      omega
  have hval : ∀ f ∈ inL L i, lg (w.fr far).n (w.fr far).D f o.nd = if f = o.nd then 0 else far := fun f h => far_lg hA (hall f h) ⟨by omega, by omega⟩
  unfold inP
  have hne : (inL L i).map (fun f => lg (w.fr far).n (w.fr far).D f o.nd) ≠ [] := by simp [inL]
  have hnn : 0 ≤ lea ((inL L i).map fun f => lg (w.fr far).n (w.fr far).D f o.nd) := by
    refine (le_lea hne).2 fun y hy => ?_
    obtain ⟨f, hf2, rfl⟩ := List.mem_map.1 hy
    rw [hval f hf2]
    split <;> omega
  split
  · rename_i hmem
    have h1 : o.nd ∈ inL L i := List.mem_cons_of_mem _ hmem
    have h2 := lea_le (List.mem_map.2 ⟨o.nd, h1, rfl⟩ : lg (w.fr far).n (w.fr far).D o.nd o.nd ∈ (inL L i).map fun f => lg (w.fr far).n (w.fr far).D f o.nd)
    rw [hval _ h1, if_pos rfl] at h2
    omega
  · rename_i hmem
    obtain ⟨f, hf2, he⟩ := List.mem_map.1 (lea_mem hne)
    rw [← he, hval f hf2, if_neg]
    rintro rfl
    rcases List.mem_cons.1 hf2 with h | h
    · omega
    · exact hmem h
theorem leaNd_far {w : Wd} {far : Int} (hA : areaB (w.fr far).n (w.fr far).D (w.fr far).T = true) {L : List Od} (hL : ∀ o ∈ L, 1 ≤ o.nd ∧ o.nd < w.n) (hne : L ≠ []) : leaNd (w.fr far) L = far := by
  unfold leaNd
  have hne2 : L.map (fun o => lg (w.fr far).n (w.fr far).D o.nd 0) ≠ [] := by simpa using hne
  obtain ⟨o, ho, he⟩ := List.mem_map.1 (lea_mem hne2)
  have := hL o ho
  rw [← he, far_lg hA ⟨by omega, by omega⟩ ⟨by omega, by omega⟩, if_neg (by omega)]
/-! ### Maps from numbers to numbers -/
abbrev setM (l : List Od) : List (V × V) := l.map fun o => (V.int .i64 o.id, V.int .i64 o.nd)
abbrev entF (g : Int → Int) (K : List Int) : List (V × V) := K.map fun k => (V.int .i64 k, V.int .i64 (g k))
theorem vfind_M (x : Int) : ∀ (l : List Od) (j : Nat), (x ∉ l.map (·.id) ∧ vfindK (.int .i64 x) (setM l) j = some none) ∨ (∃ (i : Nat) (o : Od), fndO l x = some i ∧ l[i]? = some o ∧ vfindK (.int .i64 x) (setM l) j = some (some (j + i, .int .i64 o.nd)))
  | [], j => .inl ⟨by simp, rfl⟩
  | k :: K, j => by
    by_cases h : x = k.id
    · exact .inr ⟨0, k, by unfold fndO; rw [List.findIdx?_cons]; simp [h], by simp, by simp [vfindK, sameK, h]⟩
    · have hb : (x == k.id) = false := by simpa using h
      have hb2 : (k.id == x) = false := by simpa using fun e => h e.symm
      rcases vfind_M x K (j + 1) with ⟨h1, h2⟩ | ⟨i, o, h0, h1, h2⟩
      · exact .inl ⟨by rw [List.map_cons, List.mem_cons]; exact fun q => q.elim h h1, by simp only [setM, List.map_cons, vfindK, sameK, if_true, hb]; exact h2⟩
      · refine .inr ⟨i + 1, o, ?_, by simpa using h1, ?_⟩
        · unfold fndO at h0 ⊢
          rw [List.findIdx?_cons, hb2, h0]; rfl
        · simp only [setM, List.map_cons, vfindK, sameK, if_true, hb]; rw [← setM, h2]; simp; omega
theorem vfind_F (g : Int → Int) (x : Int) : ∀ (K : List Int) (j : Nat), (x ∉ K ∧ vfindK (.int .i64 x) (entF g K) j = some none) ∨ (∃ i, K[i]? = some x ∧ vfindK (.int .i64 x) (entF g K) j = some (some (j + i, .int .i64 (g x))))
  | [], j => .inl ⟨by simp, rfl⟩
  | k :: K, j => by
    by_cases h : x = k
    · exact .inr ⟨0, by simp [h], by simp [vfindK, sameK, h]⟩
    · have hb : (x == k) = false := by simpa using h
      rcases vfind_F g x K (j + 1) with ⟨h1, h2⟩ | ⟨i, h1, h2⟩
      · exact .inl ⟨by simp [h, h1], by simp only [entF, List.map_cons, vfindK, sameK, if_true, hb]; exact h2⟩
      · exact .inr ⟨i + 1, by simpa using h1, by simp only [entF, List.map_cons, vfindK, sameK, if_true, hb]; rw [← entF, h2]; simp; omega⟩
theorem entF_new (g g' : Int → Int) (K : List Int) (x y : Int) (hx : x ∉ K) (hy : y = g' x) (hg : ∀ k ∈ K, g k = g' k) : entF g K ++ [(V.int .i64 x, V.int .i64 y)] = entF g' (K ++ [x]) := by
  rw [entF, entF, List.map_append, hy, List.map_congr_left fun k hk => by rw [hg k hk]]
  rfl
theorem entF_old (g g' : Int → Int) (K : List Int) (i : Nat) (x y : Int) (hn : K.Nodup) (hi : K[i]? = some x) (hy : y = g' x) (hg : ∀ k ∈ K, k ≠ x → g k = g' k) : (entF g K).modify i (fun e => (e.1, V.int .i64 y)) = entF g' K := by
  obtain ⟨hil, hix⟩ := List.getElem?_eq_some_iff.1 hi
  apply List.ext_getElem (by simp)
  intro k h1 h2
  have hk : k < K.length := by simpa using h2
  rw [List.getElem_modify]
  simp only [entF, List.getElem_map]
  by_cases e : i = k
  · subst e; rw [if_pos rfl, hix, hy]
  · rw [if_neg e]
    have : K[k] ≠ x := by
      intro q
      rcases Nat.lt_or_gt_of_ne e with r | r
      · exact List.pairwise_iff_getElem.1 hn i k hil hk r (by rw [hix, q])
      · exact List.pairwise_iff_getElem.1 hn k i hk hil r (by rw [hix, q])
    rw [hg _ (List.getElem_mem _) this]
/-! ### How many orders are at a node -/
def ndO (os : List Od) (id : Int) : Int := match fndO os id with
  | some q => (match os[q]? with | some o => o.nd | none => 0)
  | none => 0
theorem ndO_pick {os : List Od} : ∀ {l : List Int} {L : List Od}, pick os l = some L → l.map (ndO os) = L.map (·.nd)
  | [], L, h => by simp [pick] at h; subst h; rfl
  | x :: l, L, h => by
    simp only [pick] at h
    split at h
    · cases h
    rename_i i hi
    split at h
    · cases h
    rename_i o ho
    cases hp : pick os l with
    | none => rw [hp] at h; cases h
    | some L2 =>
      rw [hp] at h
      cases h
      rw [List.map_cons, List.map_cons, ndO_pick hp]
      simp [ndO, hi, ho]
/-- An order shares its node just if more than one is there. -/
theorem count_far {os : List Od} {ids : List Int} {L : List Od} (hp : pick os (srt ids) = some L) {i : Nat} {o : Od} (ho : L[i]? = some o) : 1 < (ids.map (ndO os)).count o.nd ↔ o.nd ∈ (L.eraseIdx i).map (·.nd) := by
  have h1 : (ids.map (ndO os)).Perm (L.map (·.nd)) := by rw [← ndO_pick hp]; exact ((srt_perm ids).map _).symm
  obtain ⟨hl, hi⟩ := List.getElem?_eq_some_iff.1 ho
  have h2 : L.Perm (o :: L.eraseIdx i) := by
    rw [List.eraseIdx_eq_take_drop_succ]
    conv => lhs; rw [split_at ho]
    exact List.perm_middle
  rw [(h1.trans (h2.map _)).count_eq, List.map_cons, List.count_cons_self, ← List.count_pos_iff]
  omega
end Go.Proofs.Ytinigjmfjabicaa
