/- The program's table and the document's: each act alike. -/
import Derived.Test.YtibhpkolbffdaaaSess3
namespace Go.Proofs.Ytibhpkolbffdaaa
open Go Go.VX Go.RowKit
set_option linter.unusedVariables false
set_option linter.unusedSimpArgs false
set_option maxHeartbeats 20000000
set_option maxRecDepth 100000


theorem bytes_inj {a b : ByteArray} : a.toList = b.toList ↔ a = b := by
  refine ⟨fun h => ?_, fun h => by rw [h]⟩
  rw [Go.ByteArray.toList_eq, Go.ByteArray.toList_eq] at h
  exact ByteArray.ext (Array.toList_inj.1 h)
theorem fIdx_some {α : Type} {p : α → Bool} : ∀ {l : List α} {n i : Nat} {x : α}, fIdx p l n = some (i, x) → ∃ a b, l = a ++ x :: b ∧ i = n + a.length ∧ p x = true ∧ ∀ y ∈ a, p y = false
  | [], n, i, x, h => by cases h
  | y :: l, n, i, x, h => by
    unfold fIdx at h
    split at h
    · rename_i hy
      cases h
      exact ⟨[], l, rfl, rfl, hy, by simp⟩
    · rename_i hy
      obtain ⟨a, b, rfl, rfl, h1, h2⟩ := fIdx_some h
      refine ⟨y :: a, b, rfl, by simp; omega, h1, fun z hz => ?_⟩
      rcases List.mem_cons.1 hz with rfl | hz
      · simpa using hy
      · exact h2 z hz
theorem fIdx_none {α : Type} {p : α → Bool} : ∀ {l : List α} {n : Nat}, fIdx p l n = none → ∀ y ∈ l, p y = false
  | [], n, h => by simp
  | y :: l, n, h => by
    unfold fIdx at h
    split at h
    · cases h
    · rename_i hy
      intro z hz
      rcases List.mem_cons.1 hz with rfl | hz
      · simpa using hy
      · exact fIdx_none h z hz
theorem modify_mid {a b : List S1} {x : S1} {tok who over : Int} (hk : x.tok = tok) : (a ++ x :: b).modify a.length (fun s => ⟨s.tok, who, over⟩) = a ++ ⟨tok, who, over⟩ :: b := by
  induction a with
  | nil => simp [hk]
  | cons y a ih => simpa using ih
/-- The document's table and the program's. -/
structure Rel (p : PT) (r : RT) : Prop where
  life : r.life = p.life
  quota : r.quota = p.quota
  us : r.us = p.us
  ss : List.Perm r.ss p.ss
  nd : (p.ss.map S1.tok).Nodup
theorem Rel.new (a b : Int) : Rel (PT.new a b) (RT.new a b) := ⟨rfl, rfl, rfl, List.Perm.refl _, List.nodup_nil⟩
theorem Rel.uniq {p : PT} {r : RT} (h : Rel p r) {x y : S1} (hx : x ∈ p.ss) (hy : y ∈ p.ss) (e : x.tok = y.tok) : x = y := by
  obtain ⟨i, hi, rfl⟩ := List.getElem_of_mem hx
  obtain ⟨j, hj, rfl⟩ := List.getElem_of_mem hy
  have hp := List.pairwise_iff_getElem.1 h.nd
  rcases Nat.lt_trichotomy i j with q | q | q
  · have := hp i j (by simpa using hi) (by simpa using hj) q
    simp only [List.getElem_map] at this
    exact absurd e this
  · subst q; rfl
  · have := hp j i (by simpa using hj) (by simpa using hi) q
    simp only [List.getElem_map] at this
    exact absurd e.symm this
/-- What counts, by the program: just who is found. -/
theorem PT.find_some {p : PT} {tok now : Int} {s : S1} (h : p.find tok now = some s) : s ∈ p.ss ∧ s.tok = tok ∧ now < s.over := by
  unfold PT.find at h
  split at h
  · rename_i i x hq
    split at h
    · cases h
      obtain ⟨a, b, e, _, h1, _⟩ := fIdx_some hq
      refine ⟨by rw [e]; simp, by simpa using (beq_iff_eq.1 h1).symm, by assumption⟩
    · cases h
  · cases h
theorem Rel.find_none {p : PT} {r : RT} (hr : Rel p r) {tok now : Int} (h : p.find tok now = none) : ∀ s ∈ p.ss, ¬ (s.tok = tok ∧ now < s.over) := by
  unfold PT.find at h
  split at h
  · rename_i i x hq
    split at h
    · cases h
    · rename_i hn
      obtain ⟨a, b, e, _, h1, _⟩ := fIdx_some hq
      intro s hs ⟨q1, q2⟩
      have := hr.uniq hs (by rw [e]; simp : x ∈ p.ss) (by rw [q1]; exact beq_iff_eq.1 h1)
      subst this
      exact hn q2
  · rename_i hq
    intro s hs ⟨q1, q2⟩
    have := fIdx_none hq s hs
    simp [q1] at this
theorem Rel.at {p : PT} {r : RT} (hr : Rel p r) (tok now : Int) : (r.at tok now < 0 ↔ p.find tok now = none) := by
  refine ⟨fun h => ?_, fun h => ?_⟩
  · rcases hf : p.find tok now with _ | s
    · rfl
    · obtain ⟨h1, h2, h3⟩ := PT.find_some hf
      exact absurd ⟨h2, h3⟩ (RT.at_none h s (hr.ss.mem_iff.2 h1))
  · refine Decidable.byContradiction fun hn => ?_
    obtain ⟨i, x, e, _, hx, h1⟩ := RT.at_some hn
    exact hr.find_none h x (hr.ss.mem_iff.1 (List.mem_of_getElem? hx)) h1
theorem Rel.many {p : PT} {r : RT} (hr : Rel p r) (who now : Int) : r.many who now = p.many who now := by
  unfold RT.many PT.many
  rw [hr.ss.countP_eq]
  rfl
theorem Rel.who {p : PT} {r : RT} (hr : Rel p r) (tok now : Int) : r.who tok now = p.who tok now := by
  unfold RT.who PT.who
  by_cases h : r.at tok now < 0
  · rw [if_pos h, (hr.at tok now).1 h]
  · rw [if_neg h]
    obtain ⟨i, x, e, _, hx, h1, h2⟩ := RT.at_some h
    rcases hf : p.find tok now with _ | s
    · exact absurd ((hr.at tok now).2 hf) h
    · obtain ⟨g1, g2, g3⟩ := PT.find_some hf
      have := hr.uniq g1 (hr.ss.mem_iff.1 (List.mem_of_getElem? hx)) (g2.trans h1.symm)
      subst this
      simp [e, hx]
/-- Without the one of a token. -/
theorem Rel.split {p : PT} {r : RT} (hr : Rel p r) {tok : Int} {a b : List S1} {x : S1} (e : p.ss = a ++ x :: b) (hx : x.tok = tok) : (p.ss.filter fun s => decide (s.tok ≠ tok)) = a ++ b := by
  have hn := hr.nd
  rw [e, List.map_append, List.map_cons, List.nodup_append] at hn
  obtain ⟨_, h2, h3⟩ := hn
  rw [List.nodup_cons] at h2
  rw [e, List.filter_append, List.filter_cons_of_neg (by simp [hx]), List.filter_eq_self.2 fun y hy => ?_, List.filter_eq_self.2 fun y hy => ?_]
  · have : y.tok ≠ x.tok := fun q => h2.1 (by rw [← q]; exact List.mem_map_of_mem hy)
    simp; omega
  · have : y.tok ≠ x.tok := h3 _ (List.mem_map_of_mem hy) _ (by simp)
    simp; omega
theorem Rel.logout {p : PT} {r : RT} (hr : Rel p r) (tok now : Int) : (r.logout tok now).1 = (p.logout tok now).1 ∧ Rel (p.logout tok now).2 (r.logout tok now).2 := by
  unfold RT.logout PT.logout
  by_cases h : r.at tok now < 0
  · have hf := (hr.at tok now).1 h
    rw [if_pos h]
    unfold PT.find at hf
    split
    · rename_i i s hq
      rw [hq] at hf
      simp only at hf
      split at hf
      · cases hf
      · rename_i hn; rw [if_neg hn]; exact ⟨rfl, hr⟩
    · exact ⟨rfl, hr⟩
  · rw [if_neg h]
    rcases hf : p.find tok now with _ | s
    · exact absurd ((hr.at tok now).2 hf) h
    · have hf' := hf
      unfold PT.find at hf
      rcases hq : fIdx (fun s => tok == s.tok) p.ss 0 with _ | ⟨i, s'⟩
      · rw [hq] at hf; cases hf
      · rw [hq] at hf
        simp only at hf
        split at hf
        · rename_i hn
          cases hf
          rw [hq]
          simp only
          rw [if_pos hn]
          obtain ⟨a, b, e, rfl, h1, _⟩ := fIdx_some hq
          have hk : s.tok = tok := (beq_iff_eq.1 h1).symm
          have he : p.ss.eraseIdx (0 + a.length) = a ++ b := by rw [e, Nat.zero_add, List.eraseIdx_append_of_length_le (Nat.le_refl _)]; simp
          refine ⟨rfl, hr.life, hr.quota, hr.us, ?_, ?_⟩
          · show List.Perm (r.ss.filter _) (p.ss.eraseIdx _)
            rw [he, ← hr.split e hk]
            exact hr.ss.filter _
          · show List.Nodup (List.map S1.tok (p.ss.eraseIdx _))
            rw [he]
            have hn := hr.nd
            rw [e] at hn
            exact hn.sublist (List.Sublist.map _ (by simp))
        · cases hf
theorem Rel.put {p : PT} {r : RT} (hr : Rel p r) (tok who over : Int) : Rel (p.put tok who over) ((r.out tok).push ⟨tok, who, over⟩) := by
  unfold PT.put RT.push RT.out
  rcases hq : fIdx (fun s => tok == s.tok) p.ss 0 with _ | ⟨i, s⟩
  · rw [hq]
    simp only
    have hno := fIdx_none hq
    have hf : (p.ss.filter fun s => decide (s.tok ≠ tok)) = p.ss := List.filter_eq_self.2 fun y hy => by
      have := hno y hy
      simp at this ⊢
      omega
    refine ⟨hr.life, hr.quota, hr.us, ?_, ?_⟩
    · show List.Perm (_ ++ _) (_ ++ _)
      refine List.Perm.append_right _ ?_
      conv => rhs; rw [← hf]
      exact hr.ss.filter _
    · show List.Nodup (List.map _ (_ ++ _))
      rw [List.map_append, List.nodup_append]
      refine ⟨hr.nd, by simp, fun a ha b hb => ?_⟩
      obtain ⟨y, hy, rfl⟩ := List.mem_map.1 ha
      have := hno y hy
      simp at this hb
      omega
  · rw [hq]
    simp only
    obtain ⟨a, b, e, rfl, h1, _⟩ := fIdx_some hq
    have hk : s.tok = tok := (beq_iff_eq.1 h1).symm
    have he : p.ss.modify (0 + a.length) (fun s => ⟨s.tok, who, over⟩) = a ++ ⟨tok, who, over⟩ :: b := by
      rw [e, Nat.zero_add]; exact modify_mid hk
    refine ⟨hr.life, hr.quota, hr.us, ?_, ?_⟩
    · show List.Perm (r.ss.filter _ ++ _) (p.ss.modify _ _)
      rw [he]
      refine List.Perm.trans (List.Perm.append_right _ (hr.ss.filter _)) ?_
      rw [hr.split e hk, List.append_assoc]
      exact List.Perm.append_left _ (List.perm_append_comm (l₂ := [_]))
    · show List.Nodup (List.map S1.tok (p.ss.modify _ _))
      rw [he]
      have hn := hr.nd
      rw [e, List.map_append, List.map_cons, hk] at hn
      simpa using hn
theorem Rel.user_neg {p : PT} {r : RT} (hr : Rel p r) (name : ByteArray) : fIdx (fun u => decide (name = u.name)) p.us 0 = none ↔ r.user name < 0 := by
  refine ⟨fun h => ?_, fun h => ?_⟩
  · refine Decidable.byContradiction fun hn => ?_
    obtain ⟨i, x, _, _, hx, h1⟩ := RT.user_some hn
    have := fIdx_none h x (by rw [← hr.us]; exact List.mem_of_getElem? hx)
    simp at this
    exact this (bytes_inj.1 h1).symm
  · rcases hq : fIdx (fun u => decide (name = u.name)) p.us 0 with _ | ⟨i, u⟩
    · exact hq
    · obtain ⟨a, b, e, _, h1, _⟩ := fIdx_some hq
      unfold RT.user at h
      rcases hf : r.us.findIdx? fun u => decide (u.name.toList = name.toList) with _ | j
      · rw [List.findIdx?_eq_none_iff] at hf
        have := hf u (by rw [hr.us, e]; simp)
        simp at this
        simp at h1
        exact absurd (by rw [h1]) this
      · rw [hf] at h; simp only [oI] at h; omega
theorem Rel.user_get {p : PT} {r : RT} (hr : Rel p r) {name : ByteArray} {i : Nat} {u : U} (h : fIdx (fun u => decide (name = u.name)) p.us 0 = some (i, u)) : r.us[(r.user name).toNat]? = some u := by
  obtain ⟨a, b, e, rfl, h1, h2⟩ := fIdx_some h
  have hu : r.us[a.length]? = some u := by rw [hr.us, e]; simp
  have hi : r.us.findIdx? (fun u => decide (u.name.toList = name.toList)) = some a.length := by
    refine findIdx_some hu (by simp at h1; simp [h1]) fun j y hj hy => ?_
    have hm : y ∈ a := by
      rw [hr.us, e, List.getElem?_append_left hj] at hy
      exact List.mem_of_getElem? hy
    have := h2 y hm
    simp at this ⊢
    exact fun q => this (bytes_inj.1 q).symm
  unfold RT.user
  rw [hi]
  simpa [oI] using hu
theorem Rel.add {p : PT} {r : RT} (hr : Rel p r) (hu : p.us.length ≤ 50) (name secret : ByteArray) (who : Int) : (r.add name secret who).1 = (p.add name secret who).1 ∧ Rel (p.add name secret who).2 (r.add name secret who).2 := by
  unfold RT.add PT.add
  split
  · exact ⟨rfl, hr⟩
  have hn := hr.user_neg name
  rcases hq : fIdx (fun u => decide (name = u.name)) p.us 0 with _ | ⟨i, u⟩
  · have := hn.1 hq
    rw [if_neg (by omega), hq]
    simp only
    rw [hr.us]
    by_cases h : p.us.length = 50
    · rw [if_pos h, if_pos (by omega)]; exact ⟨rfl, hr⟩
    · rw [if_neg h, if_neg (by omega)]
      exact ⟨rfl, hr.life, hr.quota, rfl, hr.ss, hr.nd⟩
  · have : ¬ r.user name < 0 := fun q => by rw [hn.2 q] at hq; cases hq
    rw [if_pos (by omega), hq]
    exact ⟨rfl, hr⟩
theorem Rel.login {p : PT} {r : RT} (hr : Rel p r) (name secret : ByteArray) (draw now : Int) : (r.login name secret draw now).1 = (p.login name secret draw now).1 ∧ Rel (p.login name secret draw now).2 (r.login name secret draw now).2 := by
  unfold RT.login PT.login
  split
  · exact ⟨rfl, hr⟩
  have hn := hr.user_neg name
  rcases hq : fIdx (fun u => decide (name = u.name)) p.us 0 with _ | ⟨i, u⟩
  · rw [if_pos (hn.1 hq), hq]; exact ⟨rfl, hr⟩
  · have : ¬ r.user name < 0 := fun q => by rw [hn.2 q] at hq; cases hq
    rw [if_neg this, hr.user_get hq, hq]
    simp only
    split
    · exact ⟨rfl, hr⟩
    have ha := hr.at draw now
    by_cases hf : r.at draw now < 0
    · rw [if_neg (by simp [hf]), ha.1 hf]
      simp only [Option.isSome_none, Bool.false_eq_true, if_false, hr.quota, hr.many, hr.life]
      split
      · exact ⟨rfl, hr⟩
      · exact ⟨rfl, hr.put _ _ _⟩
    · rw [if_pos hf]
      have : (p.find draw now).isSome = true := by
        rcases hx : p.find draw now with _ | s
        · exact absurd (ha.2 hx) hf
        · rfl
      rw [if_pos this]
      exact ⟨rfl, hr⟩
def RT.act (t : RT) (x : Act) : Rep × RT :=
  if x.do_ = 0 then (⟨0, 0, (t.add x.name x.secret x.who).1⟩, (t.add x.name x.secret x.who).2)
  else if x.do_ = 1 then (⟨(t.login x.name x.secret x.draw x.now).1.1, 0, (t.login x.name x.secret x.draw x.now).1.2⟩, (t.login x.name x.secret x.draw x.now).2)
  else if x.do_ = 2 then (⟨0, 0, (t.logout x.draw x.now).1⟩, (t.logout x.draw x.now).2)
  else (⟨0, (t.who x.draw x.now).1, (t.who x.draw x.now).2⟩, t)
theorem Rel.act {p : PT} {r : RT} (hr : Rel p r) (hu : p.us.length ≤ 50) (x : Act) : (r.act x).1 = (p.act x).1 ∧ Rel (p.act x).2 (r.act x).2 := by
  unfold RT.act PT.act
  split
  · have := hr.add hu x.name x.secret x.who
    exact ⟨by rw [this.1], this.2⟩
  split
  · have := hr.login x.name x.secret x.draw x.now
    exact ⟨by rw [this.1], this.2⟩
  split
  · have := hr.logout x.draw x.now
    exact ⟨by rw [this.1], this.2⟩
  · exact ⟨by rw [hr.who], hr⟩
/-- What is kept so by each act; n: how many at most. -/
structure PT.fit (t : PT) (n : Nat) : Prop where
  l1 : 1 ≤ t.life
  l2 : t.life ≤ 1099511627776
  s : t.ss.length ≤ n
  u : t.us.length ≤ 50
theorem PT.fit.ok {t : PT} {n : Nat} (h : t.fit n) (hn : n ≤ 100000) : t.ok := ⟨h.l1, h.l2, Nat.le_trans h.s hn⟩
theorem PT.fit.act {t : PT} {n : Nat} (h : t.fit n) (x : Act) : (t.act x).2.fit (n + 1) := by
  obtain ⟨h1, h2, h3, h4⟩ := h
  unfold PT.act
  split
  · unfold PT.add
    split
    · exact ⟨h1, h2, by show t.ss.length ≤ _; omega, h4⟩
    · split
      · exact ⟨h1, h2, by show t.ss.length ≤ _; omega, h4⟩
      · split
        · exact ⟨h1, h2, by show t.ss.length ≤ _; omega, h4⟩
        · exact ⟨h1, h2, by show t.ss.length ≤ _; omega, by show (t.us ++ [_]).length ≤ 50; simp; omega⟩
  split
  · unfold PT.login
    split
    · exact ⟨h1, h2, by show t.ss.length ≤ _; omega, h4⟩
    · split
      · exact ⟨h1, h2, by show t.ss.length ≤ _; omega, h4⟩
      · split
        · exact ⟨h1, h2, by show t.ss.length ≤ _; omega, h4⟩
        · split
          · exact ⟨h1, h2, by show t.ss.length ≤ _; omega, h4⟩
          · split
            · exact ⟨h1, h2, by show t.ss.length ≤ _; omega, h4⟩
            · unfold PT.put
              split
              · exact ⟨h1, h2, by show (t.ss.modify _ _).length ≤ _; simp; omega, h4⟩
              · exact ⟨h1, h2, by show (t.ss ++ [_]).length ≤ _; simp; omega, h4⟩
  split
  · unfold PT.logout
    split
    · split
      · exact ⟨h1, h2, by show (t.ss.eraseIdx _).length ≤ _; exact Nat.le_trans (List.length_eraseIdx_le _ _) (by omega), h4⟩
      · exact ⟨h1, h2, by show t.ss.length ≤ _; omega, h4⟩
    · exact ⟨h1, h2, by show t.ss.length ≤ _; omega, h4⟩
  · exact ⟨h1, h2, by show t.ss.length ≤ _; omega, h4⟩
theorem PT.fit.new {a b : Int} (h : newOK a b) : (PT.new a b).fit 0 := ⟨h.1, h.2.1, by show ([] : List S1).length ≤ 0; simp, by show ([] : List U).length ≤ 50; simp⟩
end Go.Proofs.Ytibhpkolbffdaaa
