/- SessionOthers: what it answers. -/
import Derived.Test.YtibhpkolbffdaaaSess7
namespace Go.Proofs.Ytibhpkolbffdaaa
open Go Go.VX Go.RowKit
set_option linter.unusedVariables false
set_option linter.unusedSimpArgs false
set_option maxHeartbeats 20000000
set_option maxRecDepth 100000


def wordB (i : Nat) : ByteArray := ⟨#[UInt8.ofNat (97 + i)]⟩
theorem strOfV_word (i : Nat) : strOfV [.int .u8 (97 + (i : Int))] = wordB i := by
  have e : ((97 : Int) + i).toNat = 97 + i := by omega
  unfold strOfV wordB
  simp only [List.map_cons, List.map_nil, e]
theorem wordB_inj {i j : Nat} (hi : i < 20) (hj : j < 20) (h : wordB i = wordB j) : i = j := by
  unfold wordB at h
  simp at h
  have := congrArg UInt8.toNat h
  simp at this
  omega
theorem wordB_may {i : Nat} : mayB (wordB i) = true := by
  unfold mayB wordB
  rw [Go.ByteArray.toList_eq]
  simp [ByteArray.size]
theorem word_spec (i : Nat) (hi : i < 20) : VC P 39 [.int .i64 i] [] (fun r ob' => r = .str (wordB i) ∧ ob' = []) := by
  refine VC_of_vwp_k ent_39 Try.func39 rfl (by simp [Try.ntmps39]) fun R hR => ?_
  refine vwp_seq_k fun K1 hK1 => ?_
  refine vwp_live [0] ?_
  try simp only [argSlots, pruneS, inN, eq_self, reduceIte, ite_true, Nat.reduceAdd, Nat.reduceBEq, Bool.or_true, Bool.true_or, Bool.or_false, Bool.false_or, if_true, if_false, Bool.false_eq_true]
  refine vwp_region hT ?_
  simp [-List.reduceReplicate, Try.ntmps39]
  repeat refine ⟨by first | assumption | omega | (rw [spl_length (by simp; omega)]; simp; done) | (intros; omega), ?_⟩
  refine hK1 _ ?_
  try clear hK1 K1
  refine vwp_seq_k fun K2 hK2 => ?_
  have w1 : IntKind.i64.wrap (97 + (i : Int)) = 97 + i := w64 (by omega) (by omega)
  have w2 : IntKind.u8.wrap (97 + (i : Int)) = 97 + i := by
    unfold IntKind.wrap
    simp [IntKind.signed, IntKind.bits]
    omega
  refine vwp_live [0] ?_
  try simp only [argSlots, pruneS, inN, eq_self, reduceIte, ite_true, Nat.reduceAdd, Nat.reduceBEq, Bool.or_true, Bool.true_or, Bool.or_false, Bool.false_or, if_true, if_false, Bool.false_eq_true]
  refine vwp_region hT ?_
  simp [-List.reduceReplicate, w1, w2]
  repeat refine ⟨by first | assumption | omega | (rw [spl_length (by simp; omega)]; simp; done) | (intros; omega), ?_⟩
  refine hK2 _ ?_
  try clear hK2 K2
  refine vwp_ret ?_
  try simp only [thenQ, inBlk]
  refine hR _ _ ?_
  refine ret_only [2] [] [] (by simp) (by simp) rfl (by simp) (r := .str (wordB i)) (by simp [Try.f39, strOfV_word]) ⟨rfl, rfl⟩

/-- What the tables have in common: the one's sessions are the other's, of one principal. -/
structure Oth (a b : PT) (ns : List Int) (pr : Int) (i : Nat) : Prop where
  us : b.us = a.us
  life : b.life = a.life
  quota : b.quota = a.quota
  ss : b.ss = a.ss.filter fun s => decide (s.who = pr)
  users : ∀ u ∈ a.us, ∃ j : Nat, ns[j]? = some u.who ∧ u.name = wordB j
  toks : ∀ s ∈ a.ss, 0 ≤ s.tok ∧ s.tok < i * 32 ∧ ns[(s.tok % 32).toNat]? = some s.who
theorem Oth.mono {a b : PT} {ns : List Int} {pr : Int} {i : Nat} (h : Oth a b ns pr i) : Oth a b ns pr (i + 1) :=
  ⟨h.us, h.life, h.quota, h.ss, h.users, fun s hs => ⟨(h.toks s hs).1, by have := (h.toks s hs).2.1; omega, (h.toks s hs).2.2⟩⟩
theorem Oth.many {a b : PT} {ns : List Int} {pr : Int} {i : Nat} (h : Oth a b ns pr i) (now : Int) : b.many pr now = a.many pr now := by
  unfold PT.many
  rw [h.ss, List.countP_filter]
  congr 1
  funext s
  by_cases q : s.who = pr <;> simp [q]
theorem fIdx_eq_none {α : Type} {p : α → Bool} : ∀ {l : List α} {n : Nat}, (∀ y ∈ l, p y = false) → fIdx p l n = none
  | [], n, h => rfl
  | y :: l, n, h => by
    unfold fIdx
    rw [if_neg (by rw [h y (by simp)]; simp)]
    exact fIdx_eq_none fun z hz => h z (by simp [hz])
theorem fIdx_mid {α : Type} {p : α → Bool} : ∀ {a b : List α} {x : α} {n : Nat}, (∀ y ∈ a, p y = false) → p x = true → fIdx p (a ++ x :: b) n = some (n + a.length, x)
  | [], b, x, n, h, hx => by simp [fIdx, hx]
  | y :: a, b, x, n, h, hx => by
    rw [List.cons_append]
    unfold fIdx
    rw [if_neg (by rw [h y (by simp)]; simp), fIdx_mid (fun z hz => h z (by simp [hz])) hx]
    simp; omega
theorem Oth.fresh {a b : PT} {ns : List Int} {pr : Int} {i : Nat} (h : Oth a b ns pr i) {d : Int} (hd : (i : Int) * 32 ≤ d) : fIdx (fun s => d == s.tok) a.ss 0 = none ∧ fIdx (fun s => d == s.tok) b.ss 0 = none := by
  have h1 : ∀ s ∈ a.ss, (d == s.tok) = false := fun s hs => by
    have := (h.toks s hs).2.1
    simp; omega
  refine ⟨fIdx_eq_none h1, fIdx_eq_none fun s hs => ?_⟩
  rw [h.ss] at hs
  exact h1 s (List.mem_filter.1 hs).1
theorem Oth.login {a b : PT} {ns : List Int} {pr : Int} {i k : Nat} (h : Oth a b ns pr i) (hl : ns.length ≤ 20) {w : Int} (hk : ns[k]? = some w) (sec : ByteArray) (now : Int) :
    (w = pr → (b.login (wordB k) sec (i * 32 + k) now).1 = (a.login (wordB k) sec (i * 32 + k) now).1 ∧ Oth (a.login (wordB k) sec (i * 32 + k) now).2 (b.login (wordB k) sec (i * 32 + k) now).2 ns pr (i + 1)) ∧
    (w ≠ pr → Oth (a.login (wordB k) sec (i * 32 + k) now).2 b ns pr (i + 1)) := by
  have hkl : k < ns.length := (List.getElem?_eq_some_iff.1 hk).1
  obtain ⟨f1, f2⟩ := h.fresh (d := i * 32 + k) (by omega)
  have hfa : a.find (i * 32 + k) now = none := by unfold PT.find; rw [f1]
  have hfb : b.find (i * 32 + k) now = none := by unfold PT.find; rw [f2]
  unfold PT.login
  rw [h.us]
  by_cases hnow : now < 0 ∨ 1099511627776 < now
  · simp only [if_pos hnow]; exact ⟨fun _ => ⟨by trivial, h.mono⟩, fun _ => h.mono⟩
  simp only [if_neg hnow]
  rcases hq : fIdx (fun u => decide (wordB k = u.name)) a.us 0 with _ | ⟨m, u⟩
  · rw [hq]; exact ⟨fun _ => ⟨by trivial, h.mono⟩, fun _ => h.mono⟩
  rw [hq]
  simp only
  by_cases hs : u.secret.toList ≠ sec.toList
  · simp only [if_pos hs]; exact ⟨fun _ => ⟨by trivial, h.mono⟩, fun _ => h.mono⟩
  simp only [if_neg hs, hfa, hfb, Option.isSome_none, Bool.false_eq_true, if_false]
  have hw : u.who = w := by
    obtain ⟨la, lb, e, _, h1, _⟩ := fIdx_some hq
    obtain ⟨j, hj1, hj2⟩ := h.users u (by rw [e]; simp)
    have hjl : j < ns.length := (List.getElem?_eq_some_iff.1 hj1).1
    simp at h1
    have := wordB_inj (by omega) (by omega) (h1.trans hj2)
    subst this
    rw [hk] at hj1
    exact (Option.some.inj hj1).symm
  have pa : ∀ o, a.put (i * 32 + k) u.who o = { a with ss := a.ss ++ [⟨i * 32 + k, u.who, o⟩], sbs := a.sbs ++ [a.sck], sck := a.sck + 1 } := fun o => by unfold PT.put; rw [f1]
  have pb : ∀ o, b.put (i * 32 + k) u.who o = { b with ss := b.ss ++ [⟨i * 32 + k, u.who, o⟩], sbs := b.sbs ++ [b.sck], sck := b.sck + 1 } := fun o => by unfold PT.put; rw [f2]
  have ht : ∀ (o : Int) (s : S1), s ∈ a.ss ++ [(⟨i * 32 + k, u.who, o⟩ : S1)] → 0 ≤ s.tok ∧ s.tok < ((i + 1 : Nat) : Int) * 32 ∧ ns[(s.tok % 32).toNat]? = some s.who := by
    intro o s hs
    rcases List.mem_append.1 hs with q | q
    · exact h.mono.toks s q
    · simp at q
      subst q
      refine ⟨by show (0 : Int) ≤ i * 32 + k; omega, by show ((i : Int) * 32 + k) < ((i + 1 : Nat) : Int) * 32; omega, ?_⟩
      have : (((i : Int) * 32 + k) % 32).toNat = k := by omega
      simp only [this, hk, hw]
  refine ⟨fun e => ?_, fun e => ?_⟩
  · have hm : b.many u.who now = a.many u.who now := by rw [hw, e]; exact h.many now
    rw [h.quota, hm, h.life]
    split
    · exact ⟨by trivial, h.mono⟩
    · refine ⟨by trivial, ?_⟩
      simp only [pa, pb]
      exact ⟨h.us, h.life, h.quota, by simp only [h.ss, List.filter_append]; simp [hw, e], h.users, ht _⟩
  · split
    · exact h.mono
    · simp only [pa]
      exact ⟨h.us, h.life, h.quota, by simp only [h.ss, List.filter_append]; simp [hw, e], h.users, ht _⟩
theorem PT.logout_us (t : PT) (tok now : Int) : (t.logout tok now).2.us = t.us ∧ (t.logout tok now).2.life = t.life ∧ (t.logout tok now).2.quota = t.quota ∧ ∀ s ∈ (t.logout tok now).2.ss, s ∈ t.ss := by
  unfold PT.logout
  split
  · split
    · exact ⟨rfl, rfl, rfl, fun s hs => List.mem_of_mem_eraseIdx hs⟩
    · exact ⟨rfl, rfl, rfl, fun s hs => hs⟩
  · exact ⟨rfl, rfl, rfl, fun s hs => hs⟩
theorem Oth.logout {a b : PT} {ns : List Int} {pr : Int} {i : Nat} (h : Oth a b ns pr i) {tok w : Int} (hk : ns[(tok % 32).toNat]? = some w) (now : Int) :
    (w = pr → (b.logout tok now).1 = (a.logout tok now).1 ∧ Oth (a.logout tok now).2 (b.logout tok now).2 ns pr (i + 1)) ∧ (w ≠ pr → Oth (a.logout tok now).2 b ns pr (i + 1)) := by
  have hwho : ∀ s ∈ a.ss, s.tok = tok → s.who = w := fun s hs e => by
    have := (h.toks s hs).2.2
    rw [e, hk] at this
    exact (Option.some.inj this).symm
  obtain ⟨a1, a2, a3, a4⟩ := a.logout_us tok now
  obtain ⟨b1, b2, b3, b4⟩ := b.logout_us tok now
  have hu : ∀ u ∈ (a.logout tok now).2.us, ∃ j : Nat, ns[j]? = some u.who ∧ u.name = wordB j := by rw [a1]; exact h.users
  have ht : ∀ s ∈ (a.logout tok now).2.ss, 0 ≤ s.tok ∧ s.tok < ((i + 1 : Nat) : Int) * 32 ∧ ns[(s.tok % 32).toNat]? = some s.who := fun s hs => h.mono.toks s (a4 s hs)
  rcases hq : fIdx (fun s => tok == s.tok) a.ss 0 with _ | ⟨m, s⟩
  · have hno := fIdx_none hq
    have hb : fIdx (fun s => tok == s.tok) b.ss 0 = none := fIdx_eq_none fun s hs => by
      rw [h.ss] at hs
      exact hno s (List.mem_filter.1 hs).1
    have ea : a.logout tok now = (11, a) := by unfold PT.logout; rw [hq]
    have eb : b.logout tok now = (11, b) := by unfold PT.logout; rw [hb]
    rw [ea, eb]
    exact ⟨fun _ => ⟨by trivial, h.mono⟩, fun _ => h.mono⟩
  · obtain ⟨la, lb, e, hm, h1, h2⟩ := fIdx_some hq
    have hsw : s.who = w := hwho s (by rw [e]; simp) (beq_iff_eq.1 h1).symm
    have he : a.ss.eraseIdx m = la ++ lb := by rw [e, hm, Nat.zero_add, List.eraseIdx_append_of_length_le (Nat.le_refl _)]; simp
    refine ⟨fun ew => ?_, fun ew => ?_⟩
    · have hbs : b.ss = (la.filter fun s => decide (s.who = pr)) ++ s :: (lb.filter fun s => decide (s.who = pr)) := by
        rw [h.ss, e, List.filter_append, List.filter_cons_of_pos (by simp [hsw, ew])]
      have hb : fIdx (fun s => tok == s.tok) b.ss 0 = some (0 + (la.filter fun s => decide (s.who = pr)).length, s) := by
        rw [hbs]
        exact fIdx_mid (fun y hy => h2 y (List.mem_filter.1 hy).1) h1
      have heb : b.ss.eraseIdx (0 + (la.filter fun s => decide (s.who = pr)).length) = (la ++ lb).filter fun s => decide (s.who = pr) := by
        rw [hbs, Nat.zero_add, List.eraseIdx_append_of_length_le (Nat.le_refl _)]; simp
      unfold PT.logout at *
      rw [hq] at a1 a2 a3 a4 hu ht ⊢
      rw [hb] at b1 b2 b3 b4 ⊢
      simp only at *
      split
      · rename_i hn
        simp only [if_pos hn] at *
        refine ⟨by trivial, h.us, h.life, h.quota, ?_, hu, ht⟩
        show b.ss.eraseIdx _ = (a.ss.eraseIdx _).filter _
        rw [he, heb]
      · exact ⟨by trivial, h.mono⟩
    · unfold PT.logout at *
      rw [hq] at a1 a2 a3 a4 hu ht ⊢
      simp only at *
      split
      · rename_i hn
        simp only [if_pos hn] at *
        refine ⟨h.us, h.life, h.quota, ?_, hu, ht⟩
        show b.ss = (a.ss.eraseIdx _).filter _
        rw [he, h.ss, e, List.filter_append, List.filter_cons_of_neg (by simp [hsw, ew]), List.filter_append]
      · exact h.mono
theorem PT.fit.mono {t : PT} {n : Nat} (h : t.fit n) : t.fit (n + 1) := ⟨h.l1, h.l2, Nat.le_succ_of_le h.s, h.u⟩
theorem PT.fit.login {t : PT} {n : Nat} (h : t.fit n) (name secret : ByteArray) (draw now : Int) : (t.login name secret draw now).2.fit (n + 1) := h.act ⟨1, name, secret, 0, draw, now⟩
theorem PT.fit.logout {t : PT} {n : Nat} (h : t.fit n) (tok now : Int) : (t.logout tok now).2.fit (n + 1) := h.act ⟨2, ⟨#[]⟩, ⟨#[]⟩, 0, tok, now⟩
theorem PT.fit.add {t : PT} {n : Nat} (h : t.fit n) (name secret : ByteArray) (who : Int) : (t.add name secret who).2.fit n := by
  have := h.act ⟨0, name, secret, who, 0, 0⟩
  have e : (t.act ⟨0, name, secret, who, 0, 0⟩).2 = (t.add name secret who).2 := rfl
  rw [e] at this
  refine ⟨this.l1, this.l2, ?_, this.u⟩
  unfold PT.add
  have := h.s
  grind
/-- The names, put in. -/
theorem Oth.add {a : PT} {ns : List Int} {i : Nat} {w : Int} (hl : ns.length ≤ 20) (hi : ns[i]? = some w) (hu : ∀ u ∈ a.us, ∃ j : Nat, j < i ∧ ns[j]? = some u.who ∧ u.name = wordB j) (hn : a.us.length ≤ i) :
    ((a.add (wordB i) sS w).1 = 0 ∨ (a.add (wordB i) sS w).1 = 1) ∧ (∀ u ∈ (a.add (wordB i) sS w).2.us, ∃ j : Nat, j < i + 1 ∧ ns[j]? = some u.who ∧ u.name = wordB j) ∧ (a.add (wordB i) sS w).2.us.length ≤ i + 1 ∧ (a.add (wordB i) sS w).2.ss = a.ss := by
  have hil : i < ns.length := (List.getElem?_eq_some_iff.1 hi).1
  have hno : fIdx (fun u => decide (wordB i = u.name)) a.us 0 = none := fIdx_eq_none fun u hu1 => by
    obtain ⟨j, hj, hj1, hj2⟩ := hu u hu1
    simp only [decide_eq_false_iff_not]
    intro e
    have := wordB_inj (by omega) (by omega) (e.trans hj2)
    omega
  have hu' : ∀ u ∈ a.us, ∃ j : Nat, j < i + 1 ∧ ns[j]? = some u.who ∧ u.name = wordB j := fun u h => by
    obtain ⟨j, h1, h2⟩ := hu u h
    exact ⟨j, by omega, h2⟩
  unfold PT.add
  split
  · exact ⟨.inr rfl, hu', by show a.us.length ≤ _; omega, rfl⟩
  · rw [hno]
    simp only
    rw [if_neg (by omega)]
    refine ⟨.inl rfl, fun u hu1 => ?_, by show (a.us ++ [_]).length ≤ _; simp; omega, rfl⟩
    rcases List.mem_append.1 hu1 with q | q
    · exact hu' u q
    · simp at q
      subst q
      exact ⟨i, by omega, hi, rfl⟩

def PT.obs3 (t : PT) : List Ob := [.live [.int .i64 t.life, .int .i64 t.quota, .mp 4, .mp 5], .map (t.us.map U.ent) t.ubs t.uck, .map (t.ss.map S1.ent) t.sbs t.sck]
theorem kkey (w : Int) (h1 : -9223372036854775808 ≤ w) (h2 : w ≤ 9223372036854775807) (n : Nat) (hn : 0 < n) : ∃ k : Nat, k < n ∧ (if w < IntKind.i64.wrap (IntKind.i64.wrap (-w) - 1) then IntKind.i64.wrap (IntKind.i64.wrap (-w) - 1) else w).tmod n = k := by
  have em : (if w < IntKind.i64.wrap (IntKind.i64.wrap (-w) - 1) then IntKind.i64.wrap (IntKind.i64.wrap (-w) - 1) else w) = max w (IntKind.i64.wrap (IntKind.i64.wrap (-w) - 1)) := by split <;> omega
  rw [em]
  have hm : 0 ≤ max w (IntKind.i64.wrap (IntKind.i64.wrap (-w) - 1)) := by
    by_cases e : w = -9223372036854775808
    · subst e; decide
    · rw [w64 (x := -w) (by omega) (by omega), w64 (by omega) (by omega)]
      omega
  refine ⟨((max w (IntKind.i64.wrap (IntKind.i64.wrap (-w) - 1))).tmod n).toNat, ?_, ?_⟩
  · have := Int.tmod_lt_of_pos (max w (IntKind.i64.wrap (IntKind.i64.wrap (-w) - 1))) (b := n) (by omega)
    omega
  · have := Int.tmod_nonneg (n : Int) hm
    omega
theorem login_tok {t : PT} {name secret : ByteArray} {draw now : Int} (h : (t.login name secret draw now).1.2 = 0) : (t.login name secret draw now).1.1 = draw := by
  unfold PT.login at h ⊢
  grind
theorem sothers_spec (a b : Int) (ns : List Int) (l : List Act) (pr : Int) (hns : ns.length ≤ 140737488355328) (hl : l.length ≤ 140737488355328) (hb : ∀ x ∈ l, x.name.size ≤ 140737488355328 ∧ x.secret.size ≤ 140737488355328) (hw : ∀ x ∈ l, -9223372036854775808 ≤ x.who ∧ x.who ≤ 9223372036854775807) :
    VC P 9 [.int .i64 a, .int .i64 b, .fs ns.length (ns.map (V.int .i64)), .fs l.length (rowsV l), .int .i64 pr] [] (fun r ob' => r = .bool true) := by
  refine VC_of_vwp_k ent_9 Try.func9 rfl (by simp [Try.ntmps9]) fun R hR => ?_
  refine vwp_seq_k fun K1 hK1 => ?_
  refine vwp_live [0, 1, 2, 3, 4] ?_
  try simp only [argSlots, pruneS, inN, eq_self, reduceIte, ite_true, Nat.reduceAdd, Nat.reduceBEq, Bool.or_true, Bool.true_or, Bool.or_false, Bool.false_or, if_true, if_false, Bool.false_eq_true]
  refine vwp_region hT ?_
  simp [-List.reduceReplicate, PT.obs, PT.obs3, lenAct, Try.ntmps9]
  repeat refine ⟨by first | assumption | omega | (rw [spl_length (by simp; omega)]; simp; done) | (intros; omega), ?_⟩
  refine hK1 _ ?_
  try clear hK1 K1
  refine vwp_seq_k fun K2 hK2 => ?_
  refine vwp_seq_k fun K3 hK3 => ?_
  refine vwp_live [0, 1, 2, 3, 4] ?_
  try simp only [argSlots, pruneS, inN, eq_self, reduceIte, ite_true, Nat.reduceAdd, Nat.reduceBEq, Bool.or_true, Bool.true_or, Bool.or_false, Bool.false_or, if_true, if_false, Bool.false_eq_true]
  refine vwp_region hT ?_
  simp [-List.reduceReplicate, PT.obs, PT.obs3, lenAct]
  refine vcall_by0 [] (awake18_spec) (by simp) (by simp [PT.obs]) (by simp) (by simp [PT.obs]) ?_
  rintro r ob' ⟨rfl, rfl⟩
  simp [-List.reduceReplicate, PT.obs, PT.obs3, lenAct]
  repeat refine ⟨by first | assumption | omega | (rw [spl_length (by simp; omega)]; simp; done) | (intros; omega), ?_⟩
  refine hK3 _ ?_
  try clear hK3 K3
  refine vwp_cond (by first | rfl | (simp; rfl)) (fun h1 => ?_) (fun h1 => ?_)
  · try (exfalso; simp at h1; done)
    all_goals
      try simp at h1
      refine vwp_seq_k fun K4 hK4 => ?_
      refine vwp_live [] ?_
      try simp only [argSlots, pruneS, inN, eq_self, reduceIte, ite_true, Nat.reduceAdd, Nat.reduceBEq, Bool.or_true, Bool.true_or, Bool.or_false, Bool.false_or, if_true, if_false, Bool.false_eq_true]
      refine vwp_region hT ?_
      simp [-List.reduceReplicate, PT.obs, PT.obs3, lenAct]
      repeat refine ⟨by first | assumption | omega | (rw [spl_length (by simp; omega)]; simp; done) | (intros; omega), ?_⟩
      refine hK4 _ ?_
      try clear hK4 K4
      refine vwp_ret ?_
      try simp only [thenQ, inBlk]
      refine hR _ _ ?_
      refine ret_only [10] [] [] (by simp) (by simp) rfl (by simp) (r := .bool true) (by simp [Try.f9]) rfl
  · try (exfalso; simp at h1; done)
    all_goals
      try simp at h1
      refine vwp_skip ?_
      try simp only [thenQ, inBlk]
      refine hK2 _ ?_
      try clear hK2 K2
      refine vwp_seq_k fun K5 hK5 => ?_
      refine vwp_seq_k fun K6 hK6 => ?_
      refine vwp_live [0, 1, 2, 3, 4] ?_
      try simp only [argSlots, pruneS, inN, eq_self, reduceIte, ite_true, Nat.reduceAdd, Nat.reduceBEq, Bool.or_true, Bool.true_or, Bool.or_false, Bool.false_or, if_true, if_false, Bool.false_eq_true]
      refine vwp_region hT ?_
      simp [-List.reduceReplicate, PT.obs, PT.obs3, lenAct]
      refine vcall_by0 [] (large18_spec l hl hb) (by simp) (by simp [PT.obs]) (by simp) (by simp [PT.obs]) ?_
      rintro r ob' ⟨⟨v, rfl, hv⟩, rfl⟩
      simp [-List.reduceReplicate, PT.obs, PT.obs3, lenAct]
      repeat refine ⟨by first | assumption | omega | (rw [spl_length (by simp; omega)]; simp; done) | (intros; omega), ?_⟩
      refine hK6 _ ?_
      try clear hK6 K6
      refine vwp_cond (by first | rfl | (simp; rfl)) (fun h2 => ?_) (fun h2 => ?_)
      · try (exfalso; simp at h2; done)
        all_goals
          try simp at h2
          refine vwp_seq_k fun K7 hK7 => ?_
          refine vwp_live [] ?_
          try simp only [argSlots, pruneS, inN, eq_self, reduceIte, ite_true, Nat.reduceAdd, Nat.reduceBEq, Bool.or_true, Bool.true_or, Bool.or_false, Bool.false_or, if_true, if_false, Bool.false_eq_true]
          refine vwp_region hT ?_
          simp [-List.reduceReplicate, PT.obs, PT.obs3, lenAct]
          repeat refine ⟨by first | assumption | omega | (rw [spl_length (by simp; omega)]; simp; done) | (intros; omega), ?_⟩
          refine hK7 _ ?_
          try clear hK7 K7
          refine vwp_ret ?_
          try simp only [thenQ, inBlk]
          refine hR _ _ ?_
          refine ret_only [10] [] [] (by simp) (by simp) rfl (by simp) (r := .bool true) (by simp [Try.f9]) rfl
      · try (exfalso; simp at h2; done)
        all_goals
          try simp at h2
          refine vwp_skip ?_
          try simp only [thenQ, inBlk]
          refine hK5 _ ?_
          try clear hK5 K5
          refine vwp_seq_k fun K8 hK8 => ?_
          by_cases hn : newOK a b
          · have hsm := hv (by grind)
            have hns1 : ns.length ≤ 20 := (by grind)
            have hns2 : 0 < ns.length := (by grind)
            have hns3 : ¬ ns = [] := (by grind)
            refine vwp_live [0, 1, 2, 3, 4] ?_
            try simp only [argSlots, pruneS, inN, eq_self, reduceIte, ite_true, Nat.reduceAdd, Nat.reduceBEq, Bool.or_true, Bool.true_or, Bool.or_false, Bool.false_or, if_true, if_false, Bool.false_eq_true]
            refine vwp_region hT ?_
            simp [-List.reduceReplicate, PT.obs, PT.obs3, lenAct]
            refine vcall_by0 [] (snew_spec a b) (by simp) (by simp [PT.obs]) (by simp) (by simp [PT.obs]) ?_
            rintro r ob' ⟨hq, -⟩
            obtain ⟨rfl, rfl⟩ := hq hn
            simp [-List.reduceReplicate, PT.obs, PT.obs3, lenAct]
            repeat refine ⟨by first | assumption | omega | (rw [spl_length (by simp; omega)]; simp; done) | (intros; omega), ?_⟩
            refine hK8 _ ?_
            try clear hK8 K8
            refine vwp_seq_k fun K9 hK9 => ?_
            refine vwp_live [0, 1, 2, 3, 4, 11] ?_
            try simp only [argSlots, pruneS, inN, eq_self, reduceIte, ite_true, Nat.reduceAdd, Nat.reduceBEq, Bool.or_true, Bool.true_or, Bool.or_false, Bool.false_or, if_true, if_false, Bool.false_eq_true]
            refine vwp_region hT ?_
            simp [-List.reduceReplicate, PT.obs, PT.obs3, lenAct]
            refine vcall_by0 [] (snew_spec a b) (by simp) (by simp [PT.obs]) (by simp) (by simp [PT.obs]) ?_
            rintro r ob' ⟨hq, -⟩
            obtain ⟨rfl, rfl⟩ := hq hn
            simp only [PT.obs]
            simp [-List.reduceReplicate, PT.obs, PT.obs3, lenAct]
            repeat refine ⟨by first | assumption | omega | (rw [spl_length (by simp; omega)]; simp; done) | (intros; omega), ?_⟩
            refine hK9 _ ?_
            try clear hK9 K9
            refine vwp_seq_k fun K10 hK10 => ?_
            refine vwp_seq_k fun K11 hK11 => ?_
            refine vwp_live [2, 3, 4, 11, 13] ?_
            try simp only [argSlots, pruneS, inN, eq_self, reduceIte, ite_true, Nat.reduceAdd, Nat.reduceBEq, Bool.or_true, Bool.true_or, Bool.or_false, Bool.false_or, if_true, if_false, Bool.false_eq_true]
            refine vwp_region hT ?_
            simp [-List.reduceReplicate, PT.obs, PT.obs3, lenAct]
            repeat refine ⟨by first | assumption | omega | (rw [spl_length (by simp; omega)]; simp; done) | (intros; omega), ?_⟩
            refine hK11 _ ?_
            try clear hK11 K11
            refine vwp_cond (by first | rfl | (simp; rfl)) (fun h3 => ?_) (fun h3 => ?_)
            · try (exfalso; simp at h3; done)
              all_goals
                try simp at h3
                refine vwp_seq_k fun K12 hK12 => ?_
                refine vwp_live [11, 13] ?_
                try simp only [argSlots, pruneS, inN, eq_self, reduceIte, ite_true, Nat.reduceAdd, Nat.reduceBEq, Bool.or_true, Bool.true_or, Bool.or_false, Bool.false_or, if_true, if_false, Bool.false_eq_true]
                refine vwp_region hT ?_
                simp [-List.reduceReplicate, PT.obs, PT.obs3, lenAct]
                repeat refine ⟨by first | assumption | omega | (rw [spl_length (by simp; omega)]; simp; done) | (intros; omega), ?_⟩
                refine hK12 _ ?_
                try clear hK12 K12
                refine vwp_ret ?_
                try simp only [thenQ, inBlk]
                refine hR _ _ ?_
                refine ret_only [10] [] [] (by simp) (by simp) rfl (by simp) (r := .bool true) (by simp [Try.f9]) rfl
            · try (exfalso; simp at h3; done)
              all_goals
                try simp at h3
                refine vwp_skip ?_
                try simp only [thenQ, inBlk]
                refine hK10 _ ?_
                try clear hK10 K10
                refine vwp_seq_k fun K13 hK13 => ?_
                refine vwp_live [2, 3, 4, 11, 13] ?_
                try simp only [argSlots, pruneS, inN, eq_self, reduceIte, ite_true, Nat.reduceAdd, Nat.reduceBEq, Bool.or_true, Bool.true_or, Bool.or_false, Bool.false_or, if_true, if_false, Bool.false_eq_true]
                refine vwp_region hT ?_
                simp [-List.reduceReplicate, PT.obs, PT.obs3, lenAct]
                repeat refine ⟨by first | assumption | omega | (rw [spl_length (by simp; omega)]; simp; done) | (intros; omega), ?_⟩
                refine hK13 _ ?_
                try clear hK13 K13
                refine vwp_seq_k fun K14 hK14 => ?_
                refine vwp_seq_k fun K15 hK15 => ?_
                refine vwp_live [2, 3, 4, 11, 13, 15] ?_
                try simp only [argSlots, pruneS, inN, eq_self, reduceIte, ite_true, Nat.reduceAdd, Nat.reduceBEq, Bool.or_true, Bool.true_or, Bool.or_false, Bool.false_or, if_true, if_false, Bool.false_eq_true]
                refine vwp_region hT ?_
                simp [-List.reduceReplicate, PT.obs, PT.obs3, lenAct]
                repeat refine ⟨by first | assumption | omega | (rw [spl_length (by simp; omega)]; simp; done) | (intros; omega), ?_⟩
                refine hK15 _ ?_
                try clear hK15 K15
                refine vwp_block ?_
                refine vwp_gh (st' := ⟨[(2, .fs ns.length (ns.map (V.int .i64))), (3, .fs l.length (rowsV l)), (4, .int .i64 pr), (11, .ptr 0 4 0), (13, .ptr 3 4 0), (15, .fn 39 []), (72, .fs ns.length (ns.map (V.int .i64))), (73, .int .i64 (ns.length : Int)), (74, .int .i64 ((0 : Nat) : Int))], (PT.new a b).obs ++ (PT.new a b).obs3⟩) ?_ ?_
                · refine Gh.to [2, 3, 4, 11, 13, 15, 72, 73, 74] [0, 1, 2, 3, 4, 5] _ (_) ?_ ?_ rfl ?_ ?_
                  · simp
                  · simp [PT.obs, PT.obs3, lenAct]
                  · simp [PT.obs, PT.obs3, lenAct]
                  · simp [PT.obs, PT.obs3, lenAct]
                refine vwp_loop_k (fun m st => ∃ (i : Nat) (A : PT), A.fit 0 ∧ A.us.length ≤ i ∧ A.ss = [] ∧ (∀ u ∈ A.us, ∃ j : Nat, j < i ∧ ns[j]? = some u.who ∧ u.name = wordB j) ∧ i ≤ ns.length ∧ m = ns.length - i ∧ st = ⟨[(2, .fs ns.length (ns.map (V.int .i64))), (3, .fs l.length (rowsV l)), (4, .int .i64 pr), (11, .ptr 0 4 0), (13, .ptr 3 4 0), (15, .fn 39 []), (72, .fs ns.length (ns.map (V.int .i64))), (73, .int .i64 (ns.length : Int)), (74, .int .i64 ((i : Nat) : Int))], A.obs ++ A.obs3⟩) ns.length ⟨0, _, PT.fit.new hn, by show ([] : List U).length ≤ 0; simp, rfl, fun u hu => (by cases hu), by omega, by omega, rfl⟩ ?_
                rintro m st ⟨i, A, hfA, hul, hss, hus, hi, rfl, rfl⟩
                intro K16 hK16
                refine vwp_seq_k fun K17 hK17 => ?_
                refine vwp_live [2, 3, 4, 11, 13, 15, 72, 73, 74] ?_
                try simp only [argSlots, pruneS, inN, eq_self, reduceIte, ite_true, Nat.reduceAdd, Nat.reduceBEq, Bool.or_true, Bool.true_or, Bool.or_false, Bool.false_or, if_true, if_false, Bool.false_eq_true]
                refine vwp_region hT ?_
                simp [-List.reduceReplicate, PT.obs, PT.obs3, lenAct]
                repeat refine ⟨by first | assumption | omega | (rw [spl_length (by simp; omega)]; simp; done) | (intros; omega), ?_⟩
                refine hK17 _ ?_
                try clear hK17 K17
                refine vwp_seq_k fun K18 hK18 => ?_
                refine vwp_cond (by first | rfl | (simp; rfl)) (fun h4 => ?_) (fun h4 => ?_)
                · try (exfalso; simp at h4; done)
                  all_goals
                    try simp at h4
                    refine vwp_skip ?_
                    try simp only [thenQ, inBlk]
                    refine hK18 _ ?_
                    try clear hK18 K18
                    refine vwp_seq_k fun K19 hK19 => ?_
                    refine vwp_block ?_
                    refine vwp_seq_k fun K20 hK20 => ?_
                    obtain ⟨w, hw⟩ : ∃ w, ns[i]? = some w := ⟨_, List.getElem?_eq_getElem (by omega)⟩
                    obtain ⟨o1, o2, o3, o4⟩ := Oth.add (a := A) (by omega) hw hus hul
                    have hwm : (ns.map (V.int .i64))[i]? = some (.int .i64 w) := by simp [hw]
                    refine vwp_live [2, 3, 4, 11, 13, 15, 72, 73, 74] ?_
                    try simp only [argSlots, pruneS, inN, eq_self, reduceIte, ite_true, Nat.reduceAdd, Nat.reduceBEq, Bool.or_true, Bool.true_or, Bool.or_false, Bool.false_or, if_true, if_false, Bool.false_eq_true]
                    refine vwp_region hT ?_
                    simp [-List.reduceReplicate, PT.obs, PT.obs3, lenAct, hw]
                    repeat refine ⟨by first | assumption | omega | (rw [spl_length (by simp; omega)]; simp; done) | (intros; omega), ?_⟩
                    refine hK20 _ ?_
                    try clear hK20 K20
                    refine vwp_seq_k fun K21 hK21 => ?_
                    refine vwp_live [2, 3, 4, 11, 13, 15, 16, 17, 72, 73, 74] ?_
                    try simp only [argSlots, pruneS, inN, eq_self, reduceIte, ite_true, Nat.reduceAdd, Nat.reduceBEq, Bool.or_true, Bool.true_or, Bool.or_false, Bool.false_or, if_true, if_false, Bool.false_eq_true]
                    refine vwp_region hT ?_
                    simp [-List.reduceReplicate, PT.obs, PT.obs3, lenAct]
                    refine vcall_by0 [] (word_spec i (by omega)) (by simp) (by simp) (by simp) (by simp) ?_
                    rintro r' ob' ⟨rfl, rfl⟩
                    simp [-List.reduceReplicate, PT.obs, PT.obs3, lenAct]
                    refine vcall_by0 [0, 1, 2] (add_spec A (wordB i) sS w) (by simp) (by simp [PT.obs, PT.obs3]) (by simp) (by simp [PT.obs, PT.obs3]) ?_
                    rintro r' ob' ⟨rfl, rfl⟩
                    try simp only [PT.obs]
                    simp [-List.reduceReplicate, PT.obs, PT.obs3, lenAct]
                    repeat refine ⟨by first | assumption | omega | (rw [spl_length (by simp; omega)]; simp; done) | (intros; omega), ?_⟩
                    refine hK21 _ ?_
                    try clear hK21 K21
                    refine vwp_seq_k fun K22 hK22 => ?_
                    rcases o1 with o1 | o1
                    · refine vwp_live [2, 3, 4, 11, 13, 15, 16, 17, 18, 72, 73, 74] ?_
                      try simp only [argSlots, pruneS, inN, eq_self, reduceIte, ite_true, Nat.reduceAdd, Nat.reduceBEq, Bool.or_true, Bool.true_or, Bool.or_false, Bool.false_or, if_true, if_false, Bool.false_eq_true]
                      refine vwp_region hT ?_
                      simp [-List.reduceReplicate, PT.obs, PT.obs3, lenAct, o1]
                      refine vcall_by0 [] (word_spec i (by omega)) (by simp) (by simp) (by simp) (by simp) ?_
                      rintro r' ob' ⟨rfl, rfl⟩
                      simp [-List.reduceReplicate, PT.obs, PT.obs3, lenAct, o1]
                      refine vcall_by0 [3, 4, 5] (add_spec A (wordB i) sS w) (by simp) (by simp [PT.obs, PT.obs3]) (by simp) (by simp [PT.obs, PT.obs3]) ?_
                      rintro r' ob' ⟨rfl, rfl⟩
                      try simp only [PT.obs]
                      simp [-List.reduceReplicate, PT.obs, PT.obs3, lenAct, o1]
                      repeat refine ⟨by first | assumption | omega | (rw [spl_length (by simp; omega)]; simp; done) | (intros; omega), ?_⟩
                      refine hK22 _ ?_
                      try clear hK22 K22
                      refine vwp_cond (by first | rfl | (simp; rfl)) (fun h5 => ?_) (fun h5 => ?_)
                      · try (exfalso; simp at h5; done)
                        all_goals
                          try simp at h5
                          refine vwp_seq_k fun K23 hK23 => ?_
                          refine vwp_live [] ?_
                          try simp only [argSlots, pruneS, inN, eq_self, reduceIte, ite_true, Nat.reduceAdd, Nat.reduceBEq, Bool.or_true, Bool.true_or, Bool.or_false, Bool.false_or, if_true, if_false, Bool.false_eq_true]
                          refine vwp_region hT ?_
                          simp [-List.reduceReplicate, PT.obs, PT.obs3, lenAct]
                          repeat refine ⟨by first | assumption | omega | (rw [spl_length (by simp; omega)]; simp; done) | (intros; omega), ?_⟩
                          refine hK23 _ ?_
                          try clear hK23 K23
                          refine vwp_ret ?_
                          try simp only [thenQ, inBlk]
                          refine hR _ _ ?_
                          refine ret_only [10] [] [] (by simp) (by simp) rfl (by simp) (r := .bool true) (by simp [Try.f9]) rfl
                      · try (exfalso; simp at h5; done)
                        all_goals
                          try simp at h5
                          refine vwp_skip ?_
                          try simp only [thenQ, inBlk]
                          refine hK19 _ ?_
                          try clear hK19 K19
                          refine vwp_live [2, 3, 4, 11, 13, 15, 72, 73, 74] ?_
                          try simp only [argSlots, pruneS, inN, eq_self, reduceIte, ite_true, Nat.reduceAdd, Nat.reduceBEq, Bool.or_true, Bool.true_or, Bool.or_false, Bool.false_or, if_true, if_false, Bool.false_eq_true]
                          refine vwp_region hT ?_
                          simp [-List.reduceReplicate, PT.obs, PT.obs3, lenAct]
                          repeat refine ⟨by first | assumption | omega | (rw [spl_length (by simp; omega)]; simp; done) | (intros; omega), ?_⟩
                          refine hK16 _ ?_
                          refine ⟨⟨[(2, .fs ns.length (ns.map (V.int .i64))), (3, .fs l.length (rowsV l)), (4, .int .i64 pr), (11, .ptr 0 4 0), (13, .ptr 3 4 0), (15, .fn 39 []), (72, .fs ns.length (ns.map (V.int .i64))), (73, .int .i64 (ns.length : Int)), (74, .int .i64 ((i + 1 : Nat) : Int))], (A.add (wordB i) sS w).2.obs ++ (A.add (wordB i) sS w).2.obs3⟩, ?_, ns.length - (i + 1), by omega, i + 1, _, hfA.add _ _ _, o3, o4.trans hss, o2, by omega, rfl, rfl⟩
                          refine Gh.to [2, 3, 4, 11, 13, 15, 72, 73, 74] [0, 1, 2, 3, 4, 5] _ (_) ?_ ?_ rfl ?_ ?_
                          · simp
                          · simp [PT.obs, PT.obs3, lenAct]
                          · simp [PT.obs, PT.obs3, lenAct]
                          · simp [PT.obs, PT.obs3, lenAct]; exact w64 (by omega) (by omega)
                    · refine vwp_live [2, 3, 4, 11, 13, 15, 16, 17, 18, 72, 73, 74] ?_
                      try simp only [argSlots, pruneS, inN, eq_self, reduceIte, ite_true, Nat.reduceAdd, Nat.reduceBEq, Bool.or_true, Bool.true_or, Bool.or_false, Bool.false_or, if_true, if_false, Bool.false_eq_true]
                      refine vwp_region hT ?_
                      simp [-List.reduceReplicate, PT.obs, PT.obs3, lenAct, o1]
                      refine vcall_by0 [] (word_spec i (by omega)) (by simp) (by simp) (by simp) (by simp) ?_
                      rintro r' ob' ⟨rfl, rfl⟩
                      simp [-List.reduceReplicate, PT.obs, PT.obs3, lenAct, o1]
                      refine vcall_by0 [3, 4, 5] (add_spec A (wordB i) sS w) (by simp) (by simp [PT.obs, PT.obs3]) (by simp) (by simp [PT.obs, PT.obs3]) ?_
                      rintro r' ob' ⟨rfl, rfl⟩
                      try simp only [PT.obs]
                      simp [-List.reduceReplicate, PT.obs, PT.obs3, lenAct, o1]
                      repeat refine ⟨by first | assumption | omega | (rw [spl_length (by simp; omega)]; simp; done) | (intros; omega), ?_⟩
                      refine hK22 _ ?_
                      try clear hK22 K22
                      refine vwp_cond (by first | rfl | (simp; rfl)) (fun h6 => ?_) (fun h6 => ?_)
                      · try (exfalso; simp at h6; done)
                        all_goals
                          try simp at h6
                          refine vwp_seq_k fun K24 hK24 => ?_
                          refine vwp_live [] ?_
                          try simp only [argSlots, pruneS, inN, eq_self, reduceIte, ite_true, Nat.reduceAdd, Nat.reduceBEq, Bool.or_true, Bool.true_or, Bool.or_false, Bool.false_or, if_true, if_false, Bool.false_eq_true]
                          refine vwp_region hT ?_
                          simp [-List.reduceReplicate, PT.obs, PT.obs3, lenAct]
                          repeat refine ⟨by first | assumption | omega | (rw [spl_length (by simp; omega)]; simp; done) | (intros; omega), ?_⟩
                          refine hK24 _ ?_
                          try clear hK24 K24
                          refine vwp_ret ?_
                          try simp only [thenQ, inBlk]
                          refine hR _ _ ?_
                          refine ret_only [10] [] [] (by simp) (by simp) rfl (by simp) (r := .bool true) (by simp [Try.f9]) rfl
                      · try (exfalso; simp at h6; done)
                        all_goals
                          try simp at h6
                          refine vwp_skip ?_
                          try simp only [thenQ, inBlk]
                          refine hK19 _ ?_
                          try clear hK19 K19
                          refine vwp_live [2, 3, 4, 11, 13, 15, 72, 73, 74] ?_
                          try simp only [argSlots, pruneS, inN, eq_self, reduceIte, ite_true, Nat.reduceAdd, Nat.reduceBEq, Bool.or_true, Bool.true_or, Bool.or_false, Bool.false_or, if_true, if_false, Bool.false_eq_true]
                          refine vwp_region hT ?_
                          simp [-List.reduceReplicate, PT.obs, PT.obs3, lenAct]
                          repeat refine ⟨by first | assumption | omega | (rw [spl_length (by simp; omega)]; simp; done) | (intros; omega), ?_⟩
                          refine hK16 _ ?_
                          refine ⟨⟨[(2, .fs ns.length (ns.map (V.int .i64))), (3, .fs l.length (rowsV l)), (4, .int .i64 pr), (11, .ptr 0 4 0), (13, .ptr 3 4 0), (15, .fn 39 []), (72, .fs ns.length (ns.map (V.int .i64))), (73, .int .i64 (ns.length : Int)), (74, .int .i64 ((i + 1 : Nat) : Int))], (A.add (wordB i) sS w).2.obs ++ (A.add (wordB i) sS w).2.obs3⟩, ?_, ns.length - (i + 1), by omega, i + 1, _, hfA.add _ _ _, o3, o4.trans hss, o2, by omega, rfl, rfl⟩
                          refine Gh.to [2, 3, 4, 11, 13, 15, 72, 73, 74] [0, 1, 2, 3, 4, 5] _ (_) ?_ ?_ rfl ?_ ?_
                          · simp
                          · simp [PT.obs, PT.obs3, lenAct]
                          · simp [PT.obs, PT.obs3, lenAct]
                          · simp [PT.obs, PT.obs3, lenAct]; exact w64 (by omega) (by omega)
                · try (exfalso; simp at h4; done)
                  all_goals
                    try simp at h4
                    refine vwp_exit ?_
                    simp only [inBlk, thenQ, if_true]
                    refine hK14 _ ?_
                    try clear hK14 K14
                    refine vwp_seq_k fun K25 hK25 => ?_
                    refine vwp_live [2, 3, 4, 11, 13, 15] ?_
                    try simp only [argSlots, pruneS, inN, eq_self, reduceIte, ite_true, Nat.reduceAdd, Nat.reduceBEq, Bool.or_true, Bool.true_or, Bool.or_false, Bool.false_or, if_true, if_false, Bool.false_eq_true]
                    refine vwp_region hT ?_
                    simp [-List.reduceReplicate, PT.obs, PT.obs3, lenAct]
                    repeat refine ⟨by first | assumption | omega | (rw [spl_length (by simp; omega)]; simp; done) | (intros; omega), ?_⟩
                    refine hK25 _ ?_
                    try clear hK25 K25
                    refine vwp_seq_k fun K26 hK26 => ?_
                    refine vwp_live [2, 3, 4, 11, 13, 15, 19] ?_
                    try simp only [argSlots, pruneS, inN, eq_self, reduceIte, ite_true, Nat.reduceAdd, Nat.reduceBEq, Bool.or_true, Bool.true_or, Bool.or_false, Bool.false_or, if_true, if_false, Bool.false_eq_true]
                    refine vwp_region hT ?_
                    simp [-List.reduceReplicate, PT.obs, PT.obs3, lenAct]
                    repeat refine ⟨by first | assumption | omega | (rw [spl_length (by simp; omega)]; simp; done) | (intros; omega), ?_⟩
                    refine hK26 _ ?_
                    try clear hK26 K26
                    refine vwp_seq_k fun K27 hK27 => ?_
                    refine vwp_seq_k fun K28 hK28 => ?_
                    refine vwp_live [2, 3, 4, 11, 13, 15, 19, 20] ?_
                    try simp only [argSlots, pruneS, inN, eq_self, reduceIte, ite_true, Nat.reduceAdd, Nat.reduceBEq, Bool.or_true, Bool.true_or, Bool.or_false, Bool.false_or, if_true, if_false, Bool.false_eq_true]
                    refine vwp_region hT ?_
                    simp [-List.reduceReplicate, PT.obs, PT.obs3, lenAct]
                    repeat refine ⟨by first | assumption | omega | (rw [spl_length (by simp; omega)]; simp; done) | (intros; omega), ?_⟩
                    refine hK28 _ ?_
                    try clear hK28 K28
                    refine vwp_block ?_
                    refine vwp_gh (st' := ⟨[(2, .fs ns.length (ns.map (V.int .i64))), (4, .int .i64 pr), (11, .ptr 0 4 0), (13, .ptr 3 4 0), (15, .fn 39 []), (19, .int .i64 0), (20, .sl 6 (([] : List Int)).length 1 0 (([] : List Int)).length), (102, .fs l.length (rowsV l)), (103, .int .i64 (l.length : Int)), (104, .int .i64 ((0 : Nat) : Int))], (A).obs ++ (A).obs3 ++ [.live ((([] : List Int)).map (V.int .i64))]⟩) ((Gh.virt 20 1 rfl).trans ?_) ?_
                    · refine Gh.to [2, 4, 11, 13, 15, 19, 20, 102, 103, 104] [0, 1, 2, 3, 4, 5, 6] _ (_) ?_ ?_ rfl ?_ ?_
                      · simp
                      · simp [PT.obs, PT.obs3, lenAct]
                      · simp [PT.obs, PT.obs3, lenAct]
                      · simp [PT.obs, PT.obs3, lenAct]
                    have hO0 : Oth A A ns pr 0 := ⟨rfl, rfl, rfl, by rw [hss]; rfl, fun u hu => (by obtain ⟨j, _, h⟩ := hus u hu; exact ⟨j, h⟩), fun s hs => (by rw [hss] at hs; cases hs)⟩
                    refine vwp_loop_k (fun m st => ∃ (i : Nat) (A B : PT) (toks : List Int) (now : Int), Oth A B ns pr i ∧ A.fit i ∧ B.fit i ∧ (∀ t ∈ toks, 0 ≤ t) ∧ toks.length ≤ i ∧ 0 ≤ now ∧ now ≤ i * 1073741824 ∧ i ≤ l.length ∧ m = l.length - i ∧ st = ⟨[(2, .fs ns.length (ns.map (V.int .i64))), (4, .int .i64 pr), (11, .ptr 0 4 0), (13, .ptr 3 4 0), (15, .fn 39 []), (19, .int .i64 now), (20, .sl 6 (toks).length 1 0 (toks).length), (102, .fs l.length (rowsV l)), (103, .int .i64 (l.length : Int)), (104, .int .i64 ((i : Nat) : Int))], (A).obs ++ (B).obs3 ++ [.live ((toks).map (V.int .i64))]⟩) l.length ⟨0, A, A, [], 0, hO0, hfA, hfA, by simp, by simp, by omega, by omega, by omega, by omega, rfl⟩ ?_
                    clear hO0 hus hss hul hfA
                    clear A
                    rintro m st ⟨i, A, B, toks, now, hO, hfA, hfB, htk, htl, hn0, hn1, hi, rfl, rfl⟩
                    intro K29 hK29
                    refine vwp_seq_k fun K30 hK30 => ?_
                    refine vwp_live [2, 4, 11, 13, 15, 19, 20, 102, 103, 104] ?_
                    try simp only [argSlots, pruneS, inN, eq_self, reduceIte, ite_true, Nat.reduceAdd, Nat.reduceBEq, Bool.or_true, Bool.true_or, Bool.or_false, Bool.false_or, if_true, if_false, Bool.false_eq_true]
                    refine vwp_region hT ?_
                    simp [-List.reduceReplicate, PT.obs, PT.obs3, lenAct]
                    repeat refine ⟨by first | assumption | omega | (rw [spl_length (by simp; omega)]; simp; done) | (intros; omega), ?_⟩
                    refine hK30 _ ?_
                    try clear hK30 K30
                    refine vwp_seq_k fun K31 hK31 => ?_
                    refine vwp_cond (by first | rfl | (simp; rfl)) (fun h7 => ?_) (fun h7 => ?_)
                    · try (exfalso; simp at h7; done)
                      all_goals
                        try simp at h7
                        refine vwp_skip ?_
                        try simp only [thenQ, inBlk]
                        refine hK31 _ ?_
                        try clear hK31 K31
                        refine vwp_cut_k (fun st => ∃ n2 : Int, 0 ≤ n2 ∧ n2 ≤ (i + 1) * 1073741824 ∧ ∃ (A2 B2 : PT) (toks2 : List Int), Oth A2 B2 ns pr (i + 1) ∧ A2.fit (i + 1) ∧ B2.fit (i + 1) ∧ ((∀ t ∈ toks2, 0 ≤ t) ∧ toks2.length ≤ i + 1) ∧ Gh ⟨Try.f9.ntmps, 0⟩ st ⟨[(2, .fs ns.length (ns.map (V.int .i64))), (4, .int .i64 pr), (11, .ptr 0 4 0), (13, .ptr 3 4 0), (15, .fn 39 []), (19, .int .i64 n2), (20, .sl 6 (toks2).length 1 0 (toks2).length), (102, .fs l.length (rowsV l)), (103, .int .i64 (l.length : Int)), (104, .int .i64 ((i : Nat) : Int))], (A2).obs ++ (B2).obs3 ++ [.live ((toks2).map (V.int .i64))]⟩) (fun K32 hK32 => ?_) ?_
                        · refine vwp_block ?_
                          refine vwp_seq_k fun K33 hK33 => ?_
                          obtain ⟨x, hx⟩ : ∃ x, l[i]? = some x := ⟨_, List.getElem?_eq_getElem (by omega)⟩
                          have hdr := dropAct hx
                          have hxw := hw x (List.mem_of_getElem? hx)
                          have hsA := hfA.s
                          have hsB := hfB.s
                          obtain ⟨k, hk, hke⟩ := kkey x.who hxw.1 hxw.2 ns.length (by omega)
                          obtain ⟨w, hkw⟩ : ∃ w, ns[k]? = some w := ⟨_, List.getElem?_eq_getElem hk⟩
                          have hwm : (ns.map (V.int .i64))[k]? = some (.int .i64 w) := by simp [hkw]
                          refine vwp_live [2, 4, 11, 13, 15, 19, 20, 102, 103, 104] ?_
                          try simp only [argSlots, pruneS, inN, eq_self, reduceIte, ite_true, Nat.reduceAdd, Nat.reduceBEq, Bool.or_true, Bool.true_or, Bool.or_false, Bool.false_or, if_true, if_false, Bool.false_eq_true]
                          refine vwp_region hT ?_
                          simp [-List.reduceReplicate, PT.obs, PT.obs3, lenAct, hdr]
                          repeat refine ⟨by first | assumption | omega | (rw [spl_length (by simp; omega)]; simp; done) | (intros; omega), ?_⟩
                          refine hK33 _ ?_
                          try clear hK33 K33
                          refine vwp_cut_k (fun st => ∃ n2 : Int, now ≤ n2 ∧ 0 ≤ n2 ∧ n2 ≤ (i + 1) * 1073741824 ∧ Gh ⟨Try.f9.ntmps, 0⟩ st ⟨[(2, .fs ns.length (ns.map (V.int .i64))), (4, .int .i64 pr), (11, .ptr 0 4 0), (13, .ptr 3 4 0), (15, .fn 39 []), (19, .int .i64 n2), (20, .sl 6 (toks).length 1 0 (toks).length), (21, .int .i64 (i : Int)), (22, .ptr 7 6 0), (102, .fs l.length (rowsV l)), (103, .int .i64 (l.length : Int)), (104, .int .i64 ((i : Nat) : Int))], (A).obs ++ (B).obs3 ++ [.live ((toks).map (V.int .i64))] ++ [.live x.cells]⟩) (fun K34 hK34 => ?_) ?_
                          · refine vwp_seq_k fun K35 hK35 => ?_
                            refine vwp_live [2, 4, 11, 13, 15, 19, 20, 21, 22, 102, 103, 104] ?_
                            try simp only [argSlots, pruneS, inN, eq_self, reduceIte, ite_true, Nat.reduceAdd, Nat.reduceBEq, Bool.or_true, Bool.true_or, Bool.or_false, Bool.false_or, if_true, if_false, Bool.false_eq_true]
                            refine vwp_region hT ?_
                            simp [-List.reduceReplicate, PT.obs, PT.obs3, lenAct]
                            repeat refine ⟨by first | assumption | omega | (rw [spl_length (by simp; omega)]; simp; done) | (intros; omega), ?_⟩
                            refine hK35 _ ?_
                            try clear hK35 K35
                            refine vwp_cond (by first | rfl | (simp; rfl)) (fun h8 => ?_) (fun h8 => ?_)
                            · try (exfalso; simp at h8; done)
                              all_goals
                                try simp at h8
                                have w1 : IntKind.i64.wrap (now + x.now) = now + x.now := w64 (by omega) (by omega)
                                refine vwp_live [2, 4, 11, 13, 15, 19, 20, 21, 22, 102, 103, 104] ?_
                                try simp only [argSlots, pruneS, inN, eq_self, reduceIte, ite_true, Nat.reduceAdd, Nat.reduceBEq, Bool.or_true, Bool.true_or, Bool.or_false, Bool.false_or, if_true, if_false, Bool.false_eq_true]
                                refine vwp_region hT ?_
                                simp [-List.reduceReplicate, PT.obs, PT.obs3, lenAct, w1]
                                repeat refine ⟨by first | assumption | omega | (rw [spl_length (by simp; omega)]; simp; done) | (intros; omega), ?_⟩
                                refine hK34 _ ?_
                                refine ⟨now + x.now, by omega, by omega, by omega, ?_⟩
                                refine Gh.to [2, 4, 11, 13, 15, 19, 20, 21, 22, 102, 103, 104] [0, 1, 2, 3, 4, 5, 6, 7] _ (_) ?_ ?_ rfl ?_ ?_
                                · simp
                                · simp [PT.obs, PT.obs3, lenAct]
                                · simp [PT.obs, PT.obs3, lenAct]
                                · simp [PT.obs, PT.obs3, lenAct]
                            · try (exfalso; simp at h8; done)
                              all_goals
                                try simp at h8
                                refine vwp_skip ?_
                                try simp only [thenQ, inBlk]
                                refine hK34 _ ?_
                                refine ⟨now, by omega, by omega, by omega, ?_⟩
                                refine Gh.to [2, 4, 11, 13, 15, 19, 20, 21, 22, 102, 103, 104] [0, 1, 2, 3, 4, 5, 6, 7] _ (_) ?_ ?_ rfl ?_ ?_
                                · simp
                                · simp [PT.obs, PT.obs3, lenAct]
                                · simp [PT.obs, PT.obs3, lenAct]
                                · simp [PT.obs, PT.obs3, lenAct]
                          · rintro st ⟨n2, hn2, hn20, hn21, hg⟩
                            refine vwp_gh hg ?_
                            clear hg
                            refine vwp_seq_k fun K36 hK36 => ?_
                            refine vwp_live [2, 4, 11, 13, 15, 19, 20, 21, 22, 102, 103, 104] ?_
                            try simp only [argSlots, pruneS, inN, eq_self, reduceIte, ite_true, Nat.reduceAdd, Nat.reduceBEq, Bool.or_true, Bool.true_or, Bool.or_false, Bool.false_or, if_true, if_false, Bool.false_eq_true]
                            refine vwp_region hT ?_
                            simp [-List.reduceReplicate, PT.obs, PT.obs3, lenAct, hke]
                            repeat refine ⟨by first | assumption | omega | (rw [spl_length (by simp; omega)]; simp; done) | (intros; omega), ?_⟩
                            refine hK36 _ ?_
                            try clear hK36 K36
                            refine vwp_seq_k fun K37 hK37 => ?_
                            have w3 : IntKind.i64.wrap ((i : Int) * 32) = i * 32 := w64 (by omega) (by omega)
                            have w4 : IntKind.i64.wrap ((i : Int) * 32 + k) = i * 32 + k := w64 (by omega) (by omega)
                            refine vwp_live [2, 4, 11, 13, 15, 19, 20, 21, 22, 23, 102, 103, 104] ?_
                            try simp only [argSlots, pruneS, inN, eq_self, reduceIte, ite_true, Nat.reduceAdd, Nat.reduceBEq, Bool.or_true, Bool.true_or, Bool.or_false, Bool.false_or, if_true, if_false, Bool.false_eq_true]
                            refine vwp_region hT ?_
                            simp [-List.reduceReplicate, PT.obs, PT.obs3, lenAct, w3, w4]
                            repeat refine ⟨by first | assumption | omega | (rw [spl_length (by simp; omega)]; simp; done) | (intros; omega), ?_⟩
                            refine hK37 _ ?_
                            try clear hK37 K37
                            refine vwp_seq_k fun K38 hK38 => ?_
                            refine vwp_live [2, 4, 11, 13, 15, 19, 20, 22, 23, 24, 102, 103, 104] ?_
                            try simp only [argSlots, pruneS, inN, eq_self, reduceIte, ite_true, Nat.reduceAdd, Nat.reduceBEq, Bool.or_true, Bool.true_or, Bool.or_false, Bool.false_or, if_true, if_false, Bool.false_eq_true]
                            refine vwp_region hT ?_
                            simp [-List.reduceReplicate, PT.obs, PT.obs3, lenAct, hwm, hkw]
                            repeat refine ⟨by first | assumption | omega | (rw [spl_length (by simp; omega)]; simp; done) | (intros; omega), ?_⟩
                            refine hK38 _ ?_
                            try clear hK38 K38
                            refine vwp_seq_k fun K39 hK39 => ?_
                            refine vwp_seq_k fun K40 hK40 => ?_
                            refine vwp_live [2, 4, 11, 13, 15, 19, 20, 22, 23, 24, 25, 102, 103, 104] ?_
                            try simp only [argSlots, pruneS, inN, eq_self, reduceIte, ite_true, Nat.reduceAdd, Nat.reduceBEq, Bool.or_true, Bool.true_or, Bool.or_false, Bool.false_or, if_true, if_false, Bool.false_eq_true]
                            refine vwp_region hT ?_
                            simp [-List.reduceReplicate, PT.obs, PT.obs3, lenAct]
                            repeat refine ⟨by first | assumption | omega | (rw [spl_length (by simp; omega)]; simp; done) | (intros; omega), ?_⟩
                            refine hK40 _ ?_
                            try clear hK40 K40
                            refine vwp_cond (by first | rfl | (simp; rfl)) (fun h9 => ?_) (fun h9 => ?_)
                            · try (exfalso; simp at h9; done)
                              all_goals
                                try simp at h9
                                refine vwp_seq_k fun K41 hK41 => ?_
                                refine vwp_seq_k fun K42 hK42 => ?_
                                refine vwp_live [2, 4, 11, 13, 15, 19, 20, 23, 25, 102, 103, 104] ?_
                                try simp only [argSlots, pruneS, inN, eq_self, reduceIte, ite_true, Nat.reduceAdd, Nat.reduceBEq, Bool.or_true, Bool.true_or, Bool.or_false, Bool.false_or, if_true, if_false, Bool.false_eq_true]
                                refine vwp_region hT ?_
                                simp [-List.reduceReplicate, PT.obs, PT.obs3, lenAct]
                                repeat refine ⟨by first | assumption | omega | (rw [spl_length (by simp; omega)]; simp; done) | (intros; omega), ?_⟩
                                refine hK42 _ ?_
                                try clear hK42 K42
                                refine vwp_block ?_
                                refine vwp_gh (st' := ⟨[(2, .fs ns.length (ns.map (V.int .i64))), (4, .int .i64 pr), (11, .ptr 0 4 0), (13, .ptr 3 4 0), (15, .fn 39 []), (19, .int .i64 n2), (20, .sl 6 (toks).length 1 0 (toks).length), (23, .int .i64 (k : Int)), (25, .bool (decide (w = pr))), (102, .fs l.length (rowsV l)), (103, .int .i64 (l.length : Int)), (104, .int .i64 ((i : Nat) : Int)), (144, .sl 6 toks.length 1 0 toks.length), (145, .int .i64 (toks.length : Int)), (146, .int .i64 ((0 : Nat) : Int))], (A).obs ++ (B).obs3 ++ [.live ((toks).map (V.int .i64))]⟩) ?_ ?_
                                · refine Gh.to [2, 4, 11, 13, 15, 19, 20, 23, 25, 102, 103, 104, 144, 145, 146] [0, 1, 2, 3, 4, 5, 6] _ (_) ?_ ?_ rfl ?_ ?_
                                  · simp
                                  · simp [PT.obs, PT.obs3, lenAct]
                                  · simp [PT.obs, PT.obs3, lenAct]
                                  · simp [PT.obs, PT.obs3, lenAct]; rfl
                                refine vwp_loop_k (fun m st => ∃ j : Nat, j ≤ toks.length ∧ m = toks.length - j ∧ st = ⟨[(2, .fs ns.length (ns.map (V.int .i64))), (4, .int .i64 pr), (11, .ptr 0 4 0), (13, .ptr 3 4 0), (15, .fn 39 []), (19, .int .i64 n2), (20, .sl 6 (toks).length 1 0 (toks).length), (23, .int .i64 (k : Int)), (25, .bool (decide (w = pr))), (102, .fs l.length (rowsV l)), (103, .int .i64 (l.length : Int)), (104, .int .i64 ((i : Nat) : Int)), (144, .sl 6 toks.length 1 0 toks.length), (145, .int .i64 (toks.length : Int)), (146, .int .i64 ((j : Nat) : Int))], (A).obs ++ (B).obs3 ++ [.live ((toks).map (V.int .i64))]⟩) toks.length ⟨0, by omega, by omega, rfl⟩ ?_
                                rintro m st ⟨j, hj, rfl, rfl⟩
                                intro K43 hK43
                                refine vwp_seq_k fun K44 hK44 => ?_
                                refine vwp_live [2, 4, 11, 13, 15, 19, 20, 23, 25, 102, 103, 104, 144, 145, 146] ?_
                                try simp only [argSlots, pruneS, inN, eq_self, reduceIte, ite_true, Nat.reduceAdd, Nat.reduceBEq, Bool.or_true, Bool.true_or, Bool.or_false, Bool.false_or, if_true, if_false, Bool.false_eq_true]
                                refine vwp_region hT ?_
                                simp [-List.reduceReplicate, PT.obs, PT.obs3, lenAct]
                                repeat refine ⟨by first | assumption | omega | (rw [spl_length (by simp; omega)]; simp; done) | (intros; omega), ?_⟩
                                refine hK44 _ ?_
                                try clear hK44 K44
                                refine vwp_seq_k fun K45 hK45 => ?_
                                refine vwp_cond (by first | rfl | (simp; rfl)) (fun h10 => ?_) (fun h10 => ?_)
                                · try (exfalso; simp at h10; done)
                                  all_goals
                                    try simp at h10
                                    refine vwp_skip ?_
                                    try simp only [thenQ, inBlk]
                                    refine hK45 _ ?_
                                    try clear hK45 K45
                                    refine vwp_seq_k fun K46 hK46 => ?_
                                    refine vwp_block ?_
                                    refine vwp_seq_k fun K47 hK47 => ?_
                                    obtain ⟨tk, htj⟩ : ∃ t, toks[j]? = some t := ⟨_, List.getElem?_eq_getElem (by omega)⟩
                                    have htm : (toks.map (V.int .i64))[j]? = some (.int .i64 tk) := by simp [htj]
                                    have ht0 := htk tk (List.mem_of_getElem? htj)
                                    refine vwp_live [2, 4, 11, 13, 15, 19, 20, 23, 25, 102, 103, 104, 144, 145, 146] ?_
                                    try simp only [argSlots, pruneS, inN, eq_self, reduceIte, ite_true, Nat.reduceAdd, Nat.reduceBEq, Bool.or_true, Bool.true_or, Bool.or_false, Bool.false_or, if_true, if_false, Bool.false_eq_true]
                                    refine vwp_region hT ?_
                                    simp [-List.reduceReplicate, PT.obs, PT.obs3, lenAct, htm, htj]
                                    repeat refine ⟨by first | assumption | omega | (rw [spl_length (by simp; omega)]; simp; done) | (intros; omega), ?_⟩
                                    refine hK47 _ ?_
                                    try clear hK47 K47
                                    refine vwp_seq_k fun K48 hK48 => ?_
                                    refine vwp_seq_k fun K49 hK49 => ?_
                                    refine vwp_live [2, 4, 11, 13, 15, 19, 20, 23, 25, 27, 102, 103, 104, 144, 145, 146] ?_
                                    try simp only [argSlots, pruneS, inN, eq_self, reduceIte, ite_true, Nat.reduceAdd, Nat.reduceBEq, Bool.or_true, Bool.true_or, Bool.or_false, Bool.false_or, if_true, if_false, Bool.false_eq_true]
                                    refine vwp_region hT ?_
                                    simp [-List.reduceReplicate, PT.obs, PT.obs3, lenAct]
                                    repeat refine ⟨by first | assumption | omega | (rw [spl_length (by simp; omega)]; simp; done) | (intros; omega), ?_⟩
                                    refine hK49 _ ?_
                                    try clear hK49 K49
                                    refine vwp_cond (by first | rfl | (simp; rfl)) (fun h11 => ?_) (fun h11 => ?_)
                                    · try (exfalso; simp at h11; done)
                                      all_goals
                                        try simp at h11
                                        refine vwp_exit ?_
                                        simp only [inBlk, thenQ, if_true]
                                        refine hK46 _ ?_
                                        try clear hK46 K46
                                        refine vwp_live [2, 4, 11, 13, 15, 19, 20, 23, 25, 102, 103, 104, 144, 145, 146] ?_
                                        try simp only [argSlots, pruneS, inN, eq_self, reduceIte, ite_true, Nat.reduceAdd, Nat.reduceBEq, Bool.or_true, Bool.true_or, Bool.or_false, Bool.false_or, if_true, if_false, Bool.false_eq_true]
                                        refine vwp_region hT ?_
                                        simp [-List.reduceReplicate, PT.obs, PT.obs3, lenAct]
                                        repeat refine ⟨by first | assumption | omega | (rw [spl_length (by simp; omega)]; simp; done) | (intros; omega), ?_⟩
                                        refine hK43 _ ?_
                                        refine ⟨⟨[(2, .fs ns.length (ns.map (V.int .i64))), (4, .int .i64 pr), (11, .ptr 0 4 0), (13, .ptr 3 4 0), (15, .fn 39 []), (19, .int .i64 n2), (20, .sl 6 (toks).length 1 0 (toks).length), (23, .int .i64 (k : Int)), (25, .bool (decide (w = pr))), (102, .fs l.length (rowsV l)), (103, .int .i64 (l.length : Int)), (104, .int .i64 ((i : Nat) : Int)), (144, .sl 6 toks.length 1 0 toks.length), (145, .int .i64 (toks.length : Int)), (146, .int .i64 ((j + 1 : Nat) : Int))], (A).obs ++ (B).obs3 ++ [.live ((toks).map (V.int .i64))]⟩, ?_, toks.length - (j + 1), by omega, j + 1, by omega, rfl, rfl⟩
                                        refine Gh.to [2, 4, 11, 13, 15, 19, 20, 23, 25, 102, 103, 104, 144, 145, 146] [0, 1, 2, 3, 4, 5, 6] _ (_) ?_ ?_ rfl ?_ ?_
                                        · simp
                                        · simp [PT.obs, PT.obs3, lenAct]
                                        · simp [PT.obs, PT.obs3, lenAct]
                                        · simp [PT.obs, PT.obs3, lenAct]; exact w64 (by omega) (by omega)
                                    · try (exfalso; simp at h11; done)
                                      all_goals
                                        try simp at h11
                                        have htmod : (tk % 32).toNat = k := by
                                          rw [Int.tmod_eq_emod_of_nonneg ht0] at h11
                                          omega
                                        have hlg := hO.logout (tok := tk) (w := w) (by rw [htmod]; exact hkw) n2
                                        have hfA2 := hfA.logout tk n2
                                        refine vwp_skip ?_
                                        try simp only [thenQ, inBlk]
                                        refine hK48 _ ?_
                                        try clear hK48 K48
                                        refine vwp_seq_k fun K50 hK50 => ?_
                                        refine vwp_live [2, 4, 11, 13, 15, 19, 20, 25, 27, 102, 103, 104] ?_
                                        try simp only [argSlots, pruneS, inN, eq_self, reduceIte, ite_true, Nat.reduceAdd, Nat.reduceBEq, Bool.or_true, Bool.true_or, Bool.or_false, Bool.false_or, if_true, if_false, Bool.false_eq_true]
                                        refine vwp_region hT ?_
                                        simp [-List.reduceReplicate, PT.obs, PT.obs3, lenAct]
                                        refine vcall_by0 [0, 1, 2] (logout_spec A tk n2) (by simp) (by simp [PT.obs, PT.obs3]) (by simp) (by simp [PT.obs, PT.obs3]) ?_
                                        rintro r' ob' ⟨rfl, rfl⟩
                                        try simp only [PT.obs]
                                        simp [-List.reduceReplicate, PT.obs, PT.obs3, lenAct]
                                        repeat refine ⟨by first | assumption | omega | (rw [spl_length (by simp; omega)]; simp; done) | (intros; omega), ?_⟩
                                        refine hK50 _ ?_
                                        try clear hK50 K50
                                        refine vwp_seq_k fun K51 hK51 => ?_
                                        refine vwp_seq_k fun K52 hK52 => ?_
                                        by_cases how : w = pr
                                        · obtain ⟨he, hO2⟩ := hlg.1 how
                                          have hfB2 := hfB.logout tk n2
                                          refine vwp_live [2, 4, 11, 13, 15, 19, 20, 25, 27, 28, 102, 103, 104] ?_
                                          try simp only [argSlots, pruneS, inN, eq_self, reduceIte, ite_true, Nat.reduceAdd, Nat.reduceBEq, Bool.or_true, Bool.true_or, Bool.or_false, Bool.false_or, if_true, if_false, Bool.false_eq_true]
                                          refine vwp_region hT ?_
                                          simp [-List.reduceReplicate, PT.obs, PT.obs3, lenAct, how, he]
                                          refine vcall_by0 [3, 4, 5] (logout_spec B tk n2) (by simp) (by simp [PT.obs, PT.obs3]) (by simp) (by simp [PT.obs, PT.obs3]) ?_
                                          rintro r' ob' ⟨rfl, rfl⟩
                                          try simp only [PT.obs]
                                          simp [-List.reduceReplicate, PT.obs, PT.obs3, lenAct, how, he]
                                          repeat refine ⟨by first | assumption | omega | (rw [spl_length (by simp; omega)]; simp; done) | (intros; omega), ?_⟩
                                          refine hK52 _ ?_
                                          try clear hK52 K52
                                          refine vwp_cond (by first | rfl | (simp; rfl)) (fun h12 => ?_) (fun h12 => ?_)
                                          · try (exfalso; simp at h12; done)
                                            all_goals
                                              try simp at h12
                                              refine vwp_seq_k fun K53 hK53 => ?_
                                              refine vwp_live [] ?_
                                              try simp only [argSlots, pruneS, inN, eq_self, reduceIte, ite_true, Nat.reduceAdd, Nat.reduceBEq, Bool.or_true, Bool.true_or, Bool.or_false, Bool.false_or, if_true, if_false, Bool.false_eq_true]
                                              refine vwp_region hT ?_
                                              simp [-List.reduceReplicate, PT.obs, PT.obs3, lenAct]
                                              repeat refine ⟨by first | assumption | omega | (rw [spl_length (by simp; omega)]; simp; done) | (intros; omega), ?_⟩
                                              refine hK53 _ ?_
                                              try clear hK53 K53
                                              refine vwp_ret ?_
                                              try simp only [thenQ, inBlk]
                                              refine hR _ _ ?_
                                              refine ret_only [10] [] [] (by simp) (by simp) rfl (by simp) (r := .bool true) (by simp [Try.f9]) rfl
                                          · try (exfalso; simp at h12; done)
                                            all_goals
                                              try simp at h12
                                              refine vwp_skip ?_
                                              try simp only [thenQ, inBlk]
                                              refine hK51 _ ?_
                                              try clear hK51 K51
                                              refine vwp_exit ?_
                                              simp only [inBlk, thenQ, if_true]
                                              refine hK41 _ ?_
                                              try clear hK41 K41
                                              refine vwp_exit ?_
                                              simp only [inBlk, thenQ, if_true]
                                              refine hK32 _ ?_
                                              refine ⟨n2, by omega, by omega, _, _, toks, hO2, hfA2, hfB2, ⟨htk, by omega⟩, ?_⟩
                                              refine Gh.to [2, 4, 11, 13, 15, 19, 20, 102, 103, 104] [0, 1, 2, 3, 4, 5, 6] _ (_) ?_ ?_ rfl ?_ ?_
                                              · simp
                                              · simp [PT.obs, PT.obs3, lenAct]
                                              · simp [PT.obs, PT.obs3, lenAct]
                                              · simp [PT.obs, PT.obs3, lenAct]
                                        · have hO2 := hlg.2 how
                                          have hfB2 := hfB.mono
                                          refine vwp_live [2, 4, 11, 13, 15, 19, 20, 25, 27, 28, 102, 103, 104] ?_
                                          try simp only [argSlots, pruneS, inN, eq_self, reduceIte, ite_true, Nat.reduceAdd, Nat.reduceBEq, Bool.or_true, Bool.true_or, Bool.or_false, Bool.false_or, if_true, if_false, Bool.false_eq_true]
                                          refine vwp_region hT ?_
                                          simp [-List.reduceReplicate, PT.obs, PT.obs3, lenAct, how]
                                          repeat refine ⟨by first | assumption | omega | (rw [spl_length (by simp; omega)]; simp; done) | (intros; omega), ?_⟩
                                          refine hK52 _ ?_
                                          try clear hK52 K52
                                          refine vwp_cond (by first | rfl | (simp; rfl)) (fun h13 => ?_) (fun h13 => ?_)
                                          · try (exfalso; simp at h13; done)
                                            all_goals
                                              try simp at h13
                                              refine vwp_seq_k fun K54 hK54 => ?_
                                              refine vwp_live [] ?_
                                              try simp only [argSlots, pruneS, inN, eq_self, reduceIte, ite_true, Nat.reduceAdd, Nat.reduceBEq, Bool.or_true, Bool.true_or, Bool.or_false, Bool.false_or, if_true, if_false, Bool.false_eq_true]
                                              refine vwp_region hT ?_
                                              simp [-List.reduceReplicate, PT.obs, PT.obs3, lenAct]
                                              repeat refine ⟨by first | assumption | omega | (rw [spl_length (by simp; omega)]; simp; done) | (intros; omega), ?_⟩
                                              refine hK54 _ ?_
                                              try clear hK54 K54
                                              refine vwp_ret ?_
                                              try simp only [thenQ, inBlk]
                                              refine hR _ _ ?_
                                              refine ret_only [10] [] [] (by simp) (by simp) rfl (by simp) (r := .bool true) (by simp [Try.f9]) rfl
                                          · try (exfalso; simp at h13; done)
                                            all_goals
                                              try simp at h13
                                              refine vwp_skip ?_
                                              try simp only [thenQ, inBlk]
                                              refine hK51 _ ?_
                                              try clear hK51 K51
                                              refine vwp_exit ?_
                                              simp only [inBlk, thenQ, if_true]
                                              refine hK41 _ ?_
                                              try clear hK41 K41
                                              refine vwp_exit ?_
                                              simp only [inBlk, thenQ, if_true]
                                              refine hK32 _ ?_
                                              refine ⟨n2, by omega, by omega, _, _, toks, hO2, hfA2, hfB2, ⟨htk, by omega⟩, ?_⟩
                                              refine Gh.to [2, 4, 11, 13, 15, 19, 20, 102, 103, 104] [0, 1, 2, 3, 4, 5, 6] _ (_) ?_ ?_ rfl ?_ ?_
                                              · simp
                                              · simp [PT.obs, PT.obs3, lenAct]
                                              · simp [PT.obs, PT.obs3, lenAct]
                                              · simp [PT.obs, PT.obs3, lenAct]
                                · try (exfalso; simp at h10; done)
                                  all_goals
                                    try simp at h10
                                    have hO2 := hO.mono
                                    have hfA2 := hfA.mono
                                    have hfB2 := hfB.mono
                                    refine vwp_exit ?_
                                    simp only [inBlk, thenQ, if_true]
                                    refine hK41 _ ?_
                                    try clear hK41 K41
                                    refine vwp_exit ?_
                                    simp only [inBlk, thenQ, if_true]
                                    refine hK32 _ ?_
                                    refine ⟨n2, by omega, by omega, _, _, toks, hO2, hfA2, hfB2, ⟨htk, by omega⟩, ?_⟩
                                    refine Gh.to [2, 4, 11, 13, 15, 19, 20, 102, 103, 104] [0, 1, 2, 3, 4, 5, 6] _ (_) ?_ ?_ rfl ?_ ?_
                                    · simp
                                    · simp [PT.obs, PT.obs3, lenAct]
                                    · simp [PT.obs, PT.obs3, lenAct]
                                    · simp [PT.obs, PT.obs3, lenAct]
                            · try (exfalso; simp at h9; done)
                              all_goals
                                try simp at h9
                                refine vwp_skip ?_
                                try simp only [thenQ, inBlk]
                                refine hK39 _ ?_
                                try clear hK39 K39
                                refine vwp_seq_k fun K55 hK55 => ?_
                                refine vwp_live [2, 4, 11, 13, 15, 19, 20, 22, 23, 24, 25, 102, 103, 104] ?_
                                try simp only [argSlots, pruneS, inN, eq_self, reduceIte, ite_true, Nat.reduceAdd, Nat.reduceBEq, Bool.or_true, Bool.true_or, Bool.or_false, Bool.false_or, if_true, if_false, Bool.false_eq_true]
                                refine vwp_region hT ?_
                                simp [-List.reduceReplicate, PT.obs, PT.obs3, lenAct]
                                repeat refine ⟨by first | assumption | omega | (rw [spl_length (by simp; omega)]; simp; done) | (intros; omega), ?_⟩
                                refine hK55 _ ?_
                                try clear hK55 K55
                                refine vwp_cut_k (fun st => ∃ sec : ByteArray, Gh ⟨Try.f9.ntmps, 0⟩ st ⟨[(2, .fs ns.length (ns.map (V.int .i64))), (4, .int .i64 pr), (11, .ptr 0 4 0), (13, .ptr 3 4 0), (15, .fn 39 []), (19, .int .i64 n2), (20, .sl 6 (toks).length 1 0 (toks).length), (23, .int .i64 (k : Int)), (24, .int .i64 ((i : Int) * 32 + k)), (25, .bool (decide (w = pr))), (29, .str sec), (102, .fs l.length (rowsV l)), (103, .int .i64 (l.length : Int)), (104, .int .i64 ((i : Nat) : Int))], (A).obs ++ (B).obs3 ++ [.live ((toks).map (V.int .i64))]⟩) (fun K56 hK56 => ?_) ?_
                                · refine vwp_seq_k fun K57 hK57 => ?_
                                  refine vwp_live [2, 4, 11, 13, 15, 19, 20, 22, 23, 24, 25, 29, 102, 103, 104] ?_
                                  try simp only [argSlots, pruneS, inN, eq_self, reduceIte, ite_true, Nat.reduceAdd, Nat.reduceBEq, Bool.or_true, Bool.true_or, Bool.or_false, Bool.false_or, if_true, if_false, Bool.false_eq_true]
                                  refine vwp_region hT ?_
                                  simp [-List.reduceReplicate, PT.obs, PT.obs3, lenAct]
                                  repeat refine ⟨by first | assumption | omega | (rw [spl_length (by simp; omega)]; simp; done) | (intros; omega), ?_⟩
                                  refine hK57 _ ?_
                                  try clear hK57 K57
                                  refine vwp_cond (by first | rfl | (simp; rfl)) (fun h14 => ?_) (fun h14 => ?_)
                                  · try (exfalso; simp at h14; done)
                                    all_goals
                                      try simp at h14
                                      refine vwp_live [2, 4, 11, 13, 15, 19, 20, 23, 24, 25, 102, 103, 104] ?_
                                      try simp only [argSlots, pruneS, inN, eq_self, reduceIte, ite_true, Nat.reduceAdd, Nat.reduceBEq, Bool.or_true, Bool.true_or, Bool.or_false, Bool.false_or, if_true, if_false, Bool.false_eq_true]
                                      refine vwp_region hT ?_
                                      simp [-List.reduceReplicate, PT.obs, PT.obs3, lenAct]
                                      repeat refine ⟨by first | assumption | omega | (rw [spl_length (by simp; omega)]; simp; done) | (intros; omega), ?_⟩
                                      refine hK56 _ ?_
                                      refine ⟨⟨#[120]⟩, ?_⟩
                                      refine Gh.to [2, 4, 11, 13, 15, 19, 20, 23, 24, 25, 29, 102, 103, 104] [0, 1, 2, 3, 4, 5, 6] _ (_) ?_ ?_ rfl ?_ ?_
                                      · simp
                                      · simp [PT.obs, PT.obs3, lenAct]
                                      · simp [PT.obs, PT.obs3, lenAct]
                                      · simp [PT.obs, PT.obs3, lenAct]; rfl
                                  · try (exfalso; simp at h14; done)
                                    all_goals
                                      try simp at h14
                                      refine vwp_skip ?_
                                      try simp only [thenQ, inBlk]
                                      refine hK56 _ ?_
                                      refine ⟨⟨#[115]⟩, ?_⟩
                                      refine Gh.to [2, 4, 11, 13, 15, 19, 20, 23, 24, 25, 29, 102, 103, 104] [0, 1, 2, 3, 4, 5, 6] _ (_) ?_ ?_ rfl ?_ ?_
                                      · simp
                                      · simp [PT.obs, PT.obs3, lenAct]
                                      · simp [PT.obs, PT.obs3, lenAct]
                                      · simp [PT.obs, PT.obs3, lenAct]; rfl
                                · rintro st ⟨sec, hg⟩
                                  refine vwp_gh hg ?_
                                  clear hg
                                  have hlg := hO.login (by omega) hkw sec n2
                                  have hfA2 := hfA.login (wordB k) sec (i * 32 + k) n2
                                  refine vwp_seq_k fun K58 hK58 => ?_
                                  refine vwp_live [2, 4, 11, 13, 15, 19, 20, 23, 24, 25, 29, 102, 103, 104] ?_
                                  try simp only [argSlots, pruneS, inN, eq_self, reduceIte, ite_true, Nat.reduceAdd, Nat.reduceBEq, Bool.or_true, Bool.true_or, Bool.or_false, Bool.false_or, if_true, if_false, Bool.false_eq_true]
                                  refine vwp_region hT ?_
                                  simp [-List.reduceReplicate, PT.obs, PT.obs3, lenAct]
                                  refine vcall_by0 [] (word_spec k (by omega)) (by simp) (by simp) (by simp) (by simp) ?_
                                  rintro r' ob' ⟨rfl, rfl⟩
                                  simp [-List.reduceReplicate, PT.obs, PT.obs3, lenAct]
                                  refine vcall_by0 [0, 1, 2] (login_spec A (by omega) hfA.l1 hfA.l2 (wordB k) sec (i * 32 + k) n2) (by simp) (by simp [PT.obs, PT.obs3]) (by simp) (by simp [PT.obs, PT.obs3]) ?_
                                  rintro r' ob' ⟨rfl, rfl⟩
                                  try simp only [PT.obs]
                                  simp [-List.reduceReplicate, PT.obs, PT.obs3, lenAct]
                                  repeat refine ⟨by first | assumption | omega | (rw [spl_length (by simp; omega)]; simp; done) | (intros; omega), ?_⟩
                                  refine hK58 _ ?_
                                  try clear hK58 K58
                                  refine vwp_cut_k (fun st => ∃ B2 : PT, Oth (A.login (wordB k) sec (i * 32 + k) n2).2 B2 ns pr (i + 1) ∧ B2.fit (i + 1) ∧ Gh ⟨Try.f9.ntmps, 0⟩ st ⟨[(2, .fs ns.length (ns.map (V.int .i64))), (4, .int .i64 pr), (11, .ptr 0 4 0), (13, .ptr 3 4 0), (15, .fn 39 []), (19, .int .i64 n2), (20, .sl 6 (toks).length 1 0 (toks).length), (30, .int .i64 (A.login (wordB k) sec (i * 32 + k) n2).1.1), (31, .int .i64 (A.login (wordB k) sec (i * 32 + k) n2).1.2), (102, .fs l.length (rowsV l)), (103, .int .i64 (l.length : Int)), (104, .int .i64 ((i : Nat) : Int))], ((A.login (wordB k) sec (i * 32 + k) n2).2).obs ++ (B2).obs3 ++ [.live ((toks).map (V.int .i64))]⟩) (fun K59 hK59 => ?_) ?_
                                  · refine vwp_seq_k fun K60 hK60 => ?_
                                    refine vwp_live [2, 4, 11, 13, 15, 19, 20, 23, 24, 25, 29, 30, 31, 102, 103, 104] ?_
                                    try simp only [argSlots, pruneS, inN, eq_self, reduceIte, ite_true, Nat.reduceAdd, Nat.reduceBEq, Bool.or_true, Bool.true_or, Bool.or_false, Bool.false_or, if_true, if_false, Bool.false_eq_true]
                                    refine vwp_region hT ?_
                                    simp [-List.reduceReplicate, PT.obs, PT.obs3, lenAct]
                                    repeat refine ⟨by first | assumption | omega | (rw [spl_length (by simp; omega)]; simp; done) | (intros; omega), ?_⟩
                                    refine hK60 _ ?_
                                    try clear hK60 K60
                                    refine vwp_cond (by first | rfl | (simp; rfl)) (fun h15 => ?_) (fun h15 => ?_)
                                    · try (exfalso; simp at h15; done)
                                      all_goals
                                        try simp at h15
                                        obtain ⟨he, hO2⟩ := hlg.1 h15
                                        have hfB2 := hfB.login (wordB k) sec (i * 32 + k) n2
                                        refine vwp_seq_k fun K61 hK61 => ?_
                                        refine vwp_live [2, 4, 11, 13, 15, 19, 20, 23, 24, 29, 30, 31, 102, 103, 104] ?_
                                        try simp only [argSlots, pruneS, inN, eq_self, reduceIte, ite_true, Nat.reduceAdd, Nat.reduceBEq, Bool.or_true, Bool.true_or, Bool.or_false, Bool.false_or, if_true, if_false, Bool.false_eq_true]
                                        refine vwp_region hT ?_
                                        simp [-List.reduceReplicate, PT.obs, PT.obs3, lenAct]
                                        refine vcall_by0 [] (word_spec k (by omega)) (by simp) (by simp) (by simp) (by simp) ?_
                                        rintro r' ob' ⟨rfl, rfl⟩
                                        simp [-List.reduceReplicate, PT.obs, PT.obs3, lenAct]
                                        refine vcall_by0 [3, 4, 5] (login_spec B (by omega) hfB.l1 hfB.l2 (wordB k) sec (i * 32 + k) n2) (by simp) (by simp [PT.obs, PT.obs3]) (by simp) (by simp [PT.obs, PT.obs3]) ?_
                                        rintro r' ob' ⟨rfl, rfl⟩
                                        try simp only [PT.obs]
                                        simp [-List.reduceReplicate, PT.obs, PT.obs3, lenAct]
                                        repeat refine ⟨by first | assumption | omega | (rw [spl_length (by simp; omega)]; simp; done) | (intros; omega), ?_⟩
                                        refine hK61 _ ?_
                                        try clear hK61 K61
                                        refine vwp_seq_k fun K62 hK62 => ?_
                                        refine vwp_live [2, 4, 11, 13, 15, 19, 20, 30, 31, 32, 33, 102, 103, 104] ?_
                                        try simp only [argSlots, pruneS, inN, eq_self, reduceIte, ite_true, Nat.reduceAdd, Nat.reduceBEq, Bool.or_true, Bool.true_or, Bool.or_false, Bool.false_or, if_true, if_false, Bool.false_eq_true]
                                        refine vwp_region hT ?_
                                        simp [-List.reduceReplicate, PT.obs, PT.obs3, lenAct, he]
                                        repeat refine ⟨by first | assumption | omega | (rw [spl_length (by simp; omega)]; simp; done) | (intros; omega), ?_⟩
                                        refine hK62 _ ?_
                                        try clear hK62 K62
                                        refine vwp_cond (by first | rfl | (simp; rfl)) (fun h16 => ?_) (fun h16 => ?_)
                                        · try (exfalso; simp at h16; done)
                                          all_goals
                                            try simp at h16
                                            refine vwp_seq_k fun K63 hK63 => ?_
                                            refine vwp_live [] ?_
                                            try simp only [argSlots, pruneS, inN, eq_self, reduceIte, ite_true, Nat.reduceAdd, Nat.reduceBEq, Bool.or_true, Bool.true_or, Bool.or_false, Bool.false_or, if_true, if_false, Bool.false_eq_true]
                                            refine vwp_region hT ?_
                                            simp [-List.reduceReplicate, PT.obs, PT.obs3, lenAct]
                                            repeat refine ⟨by first | assumption | omega | (rw [spl_length (by simp; omega)]; simp; done) | (intros; omega), ?_⟩
                                            refine hK63 _ ?_
                                            try clear hK63 K63
                                            refine vwp_ret ?_
                                            try simp only [thenQ, inBlk]
                                            refine hR _ _ ?_
                                            refine ret_only [10] [] [] (by simp) (by simp) rfl (by simp) (r := .bool true) (by simp [Try.f9]) rfl
                                        · try (exfalso; simp at h16; done)
                                          all_goals
                                            try simp at h16
                                            refine vwp_skip ?_
                                            try simp only [thenQ, inBlk]
                                            refine hK59 _ ?_
                                            refine ⟨_, hO2, hfB2, ?_⟩
                                            refine Gh.to [2, 4, 11, 13, 15, 19, 20, 30, 31, 102, 103, 104] [0, 1, 2, 3, 4, 5, 6] _ (_) ?_ ?_ rfl ?_ ?_
                                            · simp
                                            · simp [PT.obs, PT.obs3, lenAct]
                                            · simp [PT.obs, PT.obs3, lenAct]
                                            · simp [PT.obs, PT.obs3, lenAct]
                                    · try (exfalso; simp at h15; done)
                                      all_goals
                                        try simp at h15
                                        have hO2 := hlg.2 h15
                                        have hfB2 := hfB.mono
                                        refine vwp_skip ?_
                                        try simp only [thenQ, inBlk]
                                        refine hK59 _ ?_
                                        refine ⟨_, hO2, hfB2, ?_⟩
                                        refine Gh.to [2, 4, 11, 13, 15, 19, 20, 30, 31, 102, 103, 104] [0, 1, 2, 3, 4, 5, 6] _ (_) ?_ ?_ rfl ?_ ?_
                                        · simp
                                        · simp [PT.obs, PT.obs3, lenAct]
                                        · simp [PT.obs, PT.obs3, lenAct]
                                        · simp [PT.obs, PT.obs3, lenAct]
                                  · rintro st ⟨B2, hO2, hfB2, hg⟩
                                    refine vwp_gh hg ?_
                                    clear hg
                                    refine vwp_seq_k fun K64 hK64 => ?_
                                    refine vwp_live [2, 4, 11, 13, 15, 19, 20, 30, 31, 102, 103, 104] ?_
                                    try simp only [argSlots, pruneS, inN, eq_self, reduceIte, ite_true, Nat.reduceAdd, Nat.reduceBEq, Bool.or_true, Bool.true_or, Bool.or_false, Bool.false_or, if_true, if_false, Bool.false_eq_true]
                                    refine vwp_region hT ?_
                                    simp [-List.reduceReplicate, PT.obs, PT.obs3, lenAct]
                                    repeat refine ⟨by first | assumption | omega | (rw [spl_length (by simp; omega)]; simp; done) | (intros; omega), ?_⟩
                                    refine hK64 _ ?_
                                    try clear hK64 K64
                                    refine vwp_cond (by first | rfl | (simp; rfl)) (fun h17 => ?_) (fun h17 => ?_)
                                    · try (exfalso; simp at h17; done)
                                      all_goals
                                        try simp at h17
                                        have htok := login_tok h17
                                        have htt : List.take toks.length (toks.map (V.int .i64)) = toks.map (V.int .i64) := List.take_of_length_le (by simp)
                                        refine vwp_live [2, 4, 11, 13, 15, 19, 20, 30, 102, 103, 104] ?_
                                        try simp only [argSlots, pruneS, inN, eq_self, reduceIte, ite_true, Nat.reduceAdd, Nat.reduceBEq, Bool.or_true, Bool.true_or, Bool.or_false, Bool.false_or, if_true, if_false, Bool.false_eq_true]
                                        refine vwp_region hT ?_
                                        simp [-List.reduceReplicate, PT.obs, PT.obs3, lenAct, htok, zerosV, spl, htt]
                                        repeat refine ⟨by first | assumption | omega | (rw [spl_length (by simp; omega)]; simp; done) | (intros; omega), ?_⟩
                                        refine hK32 _ ?_
                                        refine ⟨n2, by omega, by omega, _, _, ((i : Int) * 32 + k) :: toks, hO2, hfA2, hfB2, ⟨List.forall_mem_cons.2 ⟨by omega, htk⟩, by simp; omega⟩, ?_⟩
                                        refine Gh.to [2, 4, 11, 13, 15, 19, 20, 102, 103, 104] [0, 1, 2, 3, 4, 5, 7] _ (_) ?_ ?_ rfl ?_ ?_
                                        · simp
                                        · simp [PT.obs, PT.obs3, lenAct, htt]
                                        · simp [PT.obs, PT.obs3, lenAct, htt]
                                        · simp [PT.obs, PT.obs3, lenAct, htt]; omega
                                    · try (exfalso; simp at h17; done)
                                      all_goals
                                        try simp at h17
                                        refine vwp_skip ?_
                                        try simp only [thenQ, inBlk]
                                        refine hK32 _ ?_
                                        refine ⟨n2, by omega, by omega, _, _, toks, hO2, hfA2, hfB2, ⟨htk, by omega⟩, ?_⟩
                                        refine Gh.to [2, 4, 11, 13, 15, 19, 20, 102, 103, 104] [0, 1, 2, 3, 4, 5, 6] _ (_) ?_ ?_ rfl ?_ ?_
                                        · simp
                                        · simp [PT.obs, PT.obs3, lenAct]
                                        · simp [PT.obs, PT.obs3, lenAct]
                                        · simp [PT.obs, PT.obs3, lenAct]
                        · rintro st ⟨n2, hn20, hn21, A2, B2, toks2, hO2, hfA2, hfB2, ⟨htk2, htl2⟩, hg⟩
                          refine vwp_gh hg ?_
                          clear hg
                          refine vwp_live [2, 4, 11, 13, 15, 19, 20, 102, 103, 104] ?_
                          try simp only [argSlots, pruneS, inN, eq_self, reduceIte, ite_true, Nat.reduceAdd, Nat.reduceBEq, Bool.or_true, Bool.true_or, Bool.or_false, Bool.false_or, if_true, if_false, Bool.false_eq_true]
                          refine vwp_region hT ?_
                          simp [-List.reduceReplicate, PT.obs, PT.obs3, lenAct]
                          repeat refine ⟨by first | assumption | omega | (rw [spl_length (by simp; omega)]; simp; done) | (intros; omega), ?_⟩
                          refine hK29 _ ?_
                          refine ⟨⟨[(2, .fs ns.length (ns.map (V.int .i64))), (4, .int .i64 pr), (11, .ptr 0 4 0), (13, .ptr 3 4 0), (15, .fn 39 []), (19, .int .i64 n2), (20, .sl 6 (toks2).length 1 0 (toks2).length), (102, .fs l.length (rowsV l)), (103, .int .i64 (l.length : Int)), (104, .int .i64 ((i + 1 : Nat) : Int))], (A2).obs ++ (B2).obs3 ++ [.live ((toks2).map (V.int .i64))]⟩, ?_, l.length - (i + 1), by omega, i + 1, A2, B2, toks2, n2, hO2, hfA2, hfB2, htk2, htl2, by omega, by omega, by omega, rfl, rfl⟩
                          refine Gh.to [2, 4, 11, 13, 15, 19, 20, 102, 103, 104] [0, 1, 2, 3, 4, 5, 6] _ (_) ?_ ?_ rfl ?_ ?_
                          · simp
                          · simp [PT.obs, PT.obs3, lenAct]
                          · simp [PT.obs, PT.obs3, lenAct]
                          · simp [PT.obs, PT.obs3, lenAct]; exact w64 (by omega) (by omega)
                    · try (exfalso; simp at h7; done)
                      all_goals
                        try simp at h7
                        refine vwp_exit ?_
                        simp only [inBlk, thenQ, if_true]
                        refine hK27 _ ?_
                        try clear hK27 K27
                        refine vwp_seq_k fun K65 hK65 => ?_
                        have hmm := hO.many now
                        refine vwp_live [4, 11, 13, 19] ?_
                        try simp only [argSlots, pruneS, inN, eq_self, reduceIte, ite_true, Nat.reduceAdd, Nat.reduceBEq, Bool.or_true, Bool.true_or, Bool.or_false, Bool.false_or, if_true, if_false, Bool.false_eq_true]
                        refine vwp_region hT ?_
                        simp [-List.reduceReplicate, PT.obs, PT.obs3, lenAct, hmm]
                        refine vcall_by0 [0, 1, 2] (many_spec A (by have := hfA.s; omega) pr now) (by simp) (by simp [PT.obs, PT.obs3]) (by simp) (by simp [PT.obs, PT.obs3]) ?_
                        rintro r' ob' ⟨rfl, rfl⟩
                        try simp only [PT.obs]
                        simp [-List.reduceReplicate, PT.obs, PT.obs3, lenAct, hmm]
                        refine vcall_by0 [3, 4, 5] (many_spec B (by have := hfB.s; omega) pr now) (by simp) (by simp [PT.obs, PT.obs3]) (by simp) (by simp [PT.obs, PT.obs3]) ?_
                        rintro r' ob' ⟨rfl, rfl⟩
                        try simp only [PT.obs]
                        simp [-List.reduceReplicate, PT.obs, PT.obs3, lenAct, hmm]
                        repeat refine ⟨by first | assumption | omega | (rw [spl_length (by simp; omega)]; simp; done) | (intros; omega), ?_⟩
                        refine hK65 _ ?_
                        try clear hK65 K65
                        refine vwp_ret ?_
                        try simp only [thenQ, inBlk]
                        refine hR _ _ ?_
                        refine ret_only [10] [] [] (by simp) (by simp) rfl (by simp) (r := .bool true) (by simp [Try.f9]) rfl
          · refine vwp_live [0, 1, 2, 3, 4] ?_
            try simp only [argSlots, pruneS, inN, eq_self, reduceIte, ite_true, Nat.reduceAdd, Nat.reduceBEq, Bool.or_true, Bool.true_or, Bool.or_false, Bool.false_or, if_true, if_false, Bool.false_eq_true]
            refine vwp_region hT ?_
            simp [-List.reduceReplicate, PT.obs, PT.obs3, lenAct]
            refine vcall_by0 [] (snew_spec a b) (by simp) (by simp [PT.obs]) (by simp) (by simp [PT.obs]) ?_
            rintro r ob' ⟨-, hq⟩
            obtain ⟨rfl, rfl⟩ := hq hn
            simp [-List.reduceReplicate, PT.obs, PT.obs3, lenAct]
            repeat refine ⟨by first | assumption | omega | (rw [spl_length (by simp; omega)]; simp; done) | (intros; omega), ?_⟩
            refine hK8 _ ?_
            try clear hK8 K8
            refine vwp_seq_k fun K66 hK66 => ?_
            refine vwp_live [0, 1, 2, 3, 4, 11] ?_
            try simp only [argSlots, pruneS, inN, eq_self, reduceIte, ite_true, Nat.reduceAdd, Nat.reduceBEq, Bool.or_true, Bool.true_or, Bool.or_false, Bool.false_or, if_true, if_false, Bool.false_eq_true]
            refine vwp_region hT ?_
            simp [-List.reduceReplicate, PT.obs, PT.obs3, lenAct]
            refine vcall_by0 [] (snew_spec a b) (by simp) (by simp [PT.obs]) (by simp) (by simp [PT.obs]) ?_
            rintro r ob' ⟨-, hq⟩
            obtain ⟨rfl, rfl⟩ := hq hn
            simp [-List.reduceReplicate, PT.obs, PT.obs3, lenAct]
            repeat refine ⟨by first | assumption | omega | (rw [spl_length (by simp; omega)]; simp; done) | (intros; omega), ?_⟩
            refine hK66 _ ?_
            try clear hK66 K66
            refine vwp_seq_k fun K67 hK67 => ?_
            refine vwp_seq_k fun K68 hK68 => ?_
            refine vwp_live [2, 3, 4, 11, 13] ?_
            try simp only [argSlots, pruneS, inN, eq_self, reduceIte, ite_true, Nat.reduceAdd, Nat.reduceBEq, Bool.or_true, Bool.true_or, Bool.or_false, Bool.false_or, if_true, if_false, Bool.false_eq_true]
            refine vwp_region hT ?_
            simp [-List.reduceReplicate, PT.obs, PT.obs3, lenAct]
            repeat refine ⟨by first | assumption | omega | (rw [spl_length (by simp; omega)]; simp; done) | (intros; omega), ?_⟩
            refine hK68 _ ?_
            try clear hK68 K68
            refine vwp_cond (by first | rfl | (simp; rfl)) (fun h18 => ?_) (fun h18 => ?_)
            · try (exfalso; simp at h18; done)
              all_goals
                try simp at h18
                refine vwp_seq_k fun K69 hK69 => ?_
                refine vwp_live [11, 13] ?_
                try simp only [argSlots, pruneS, inN, eq_self, reduceIte, ite_true, Nat.reduceAdd, Nat.reduceBEq, Bool.or_true, Bool.true_or, Bool.or_false, Bool.false_or, if_true, if_false, Bool.false_eq_true]
                refine vwp_region hT ?_
                simp [-List.reduceReplicate, PT.obs, PT.obs3, lenAct]
                repeat refine ⟨by first | assumption | omega | (rw [spl_length (by simp; omega)]; simp; done) | (intros; omega), ?_⟩
                refine hK69 _ ?_
                try clear hK69 K69
                refine vwp_ret ?_
                try simp only [thenQ, inBlk]
                refine hR _ _ ?_
                refine ret_only [10] [] [] (by simp) (by simp) rfl (by simp) (r := .bool true) (by simp [Try.f9]) rfl
            · try (exfalso; simp at h18; done)
              all_goals
                try simp at h18
                refine vwp_skip ?_
                try simp only [thenQ, inBlk]
                refine hK67 _ ?_
                try clear hK67 K67
                refine vwp_seq_k fun K70 hK70 => ?_
                skip
end Go.Proofs.Ytibhpkolbffdaaa
