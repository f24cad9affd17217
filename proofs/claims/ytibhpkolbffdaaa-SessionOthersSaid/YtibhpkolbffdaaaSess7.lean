/- SessionTells: what it answers. -/
import Derived.Test.YtibhpkolbffdaaaSess6
namespace Go.Proofs.Ytibhpkolbffdaaa
open Go Go.VX Go.RowKit
set_option linter.unusedVariables false
set_option linter.unusedSimpArgs false
set_option maxHeartbeats 20000000
set_option maxRecDepth 100000

structure KV where
  k : Int
  v : Int

abbrev U.wEnt (x : U) : V × V := (.str x.name, .int .i64 x.who)
@[simp] theorem rnO_U_wEnt (f : Nat → Nat) (l : List U) (bs : List Nat) (ck : Nat) : rnO f (.map (l.map U.wEnt) bs ck) = .map (l.map U.wEnt) bs ck := rnO_map f U.wEnt (fun _ => rfl) l bs ck
@[simp] theorem rnO_U_wEnt_e (f : Nat → Nat) (l : List U) (i : Nat) (bs : List Nat) (ck : Nat) : rnO f (.map ((l.map U.wEnt).eraseIdx i) bs ck) = .map ((l.map U.wEnt).eraseIdx i) bs ck := by
  rw [← map_eraseIdx]; exact rnO_U_wEnt f _ bs ck
@[simp] theorem rnO_U_wEnt_p (f : Nat → Nat) (l : List U) (a : ByteArray) (c : Int) (bs : List Nat) (ck : Nat) : rnO f (.map (l.map U.wEnt ++ [(.str a, .int .i64 c)]) bs ck) = .map (l.map U.wEnt ++ [(.str a, .int .i64 c)]) bs ck := by
  have : l.map U.wEnt ++ [(.str a, .int .i64 c)] = (l ++ [(⟨a, a, c⟩ : U)]).map U.wEnt := by simp
  rw [this]; exact rnO_U_wEnt f _ bs ck
theorem U.wEnt_modify (l : List U) (i : Nat) (c : Int) : (l.map U.wEnt).modify i (fun e => (e.1, .int .i64 c)) = (l.modify i fun s => ⟨s.name, s.secret, c⟩).map U.wEnt := (map_modify U.wEnt _ _ (fun _ => rfl) l i).symm
@[simp] theorem rnO_U_wEnt_m (f : Nat → Nat) (l : List U) (i : Nat) (c : Int) (bs : List Nat) (ck : Nat) : rnO f (.map ((l.map U.wEnt).modify i (fun e => (e.1, .int .i64 c))) bs ck) = .map ((l.map U.wEnt).modify i (fun e => (e.1, .int .i64 c))) bs ck := by
  rw [U.wEnt_modify]; exact rnO_U_wEnt f _ bs ck
theorem vfindK_U_wEnt (n : ByteArray) : ∀ (l : List U) (i : Nat), vfindK (.str n) (l.map U.wEnt) i = some ((fIdx (fun u => decide (n = u.name)) l i).map fun q => (q.1, (U.wEnt q.2).2))
  | [], i => rfl
  | u :: l, i => by
    simp only [List.map_cons, vfindK, sameK, fIdx]
    by_cases h : n = u.name
    · simp [h]
    · simp only [h, decide_false, Bool.false_eq_true, if_false]
      exact vfindK_U_wEnt n l (i + 1)

abbrev S1.oEnt (x : S1) : V × V := (.int .i64 x.tok, .int .i64 x.over)
@[simp] theorem rnO_S1_oEnt (f : Nat → Nat) (l : List S1) (bs : List Nat) (ck : Nat) : rnO f (.map (l.map S1.oEnt) bs ck) = .map (l.map S1.oEnt) bs ck := rnO_map f S1.oEnt (fun _ => rfl) l bs ck
@[simp] theorem rnO_S1_oEnt_e (f : Nat → Nat) (l : List S1) (i : Nat) (bs : List Nat) (ck : Nat) : rnO f (.map ((l.map S1.oEnt).eraseIdx i) bs ck) = .map ((l.map S1.oEnt).eraseIdx i) bs ck := by
  rw [← map_eraseIdx]; exact rnO_S1_oEnt f _ bs ck
@[simp] theorem rnO_S1_oEnt_p (f : Nat → Nat) (l : List S1) (a : Int) (c : Int) (bs : List Nat) (ck : Nat) : rnO f (.map (l.map S1.oEnt ++ [(.int .i64 a, .int .i64 c)]) bs ck) = .map (l.map S1.oEnt ++ [(.int .i64 a, .int .i64 c)]) bs ck := by
  have : l.map S1.oEnt ++ [(.int .i64 a, .int .i64 c)] = (l ++ [(⟨a, 0, c⟩ : S1)]).map S1.oEnt := by simp
  rw [this]; exact rnO_S1_oEnt f _ bs ck
theorem S1.oEnt_modify (l : List S1) (i : Nat) (c : Int) : (l.map S1.oEnt).modify i (fun e => (e.1, .int .i64 c)) = (l.modify i fun s => ⟨s.tok, s.who, c⟩).map S1.oEnt := (map_modify S1.oEnt _ _ (fun _ => rfl) l i).symm
@[simp] theorem rnO_S1_oEnt_m (f : Nat → Nat) (l : List S1) (i : Nat) (c : Int) (bs : List Nat) (ck : Nat) : rnO f (.map ((l.map S1.oEnt).modify i (fun e => (e.1, .int .i64 c))) bs ck) = .map ((l.map S1.oEnt).modify i (fun e => (e.1, .int .i64 c))) bs ck := by
  rw [S1.oEnt_modify]; exact rnO_S1_oEnt f _ bs ck
theorem vfindK_S1_oEnt (n : Int) : ∀ (l : List S1) (i : Nat), vfindK (.int .i64 n) (l.map S1.oEnt) i = some ((fIdx (fun u => n == u.tok) l i).map fun q => (q.1, (S1.oEnt q.2).2))
  | [], i => rfl
  | u :: l, i => by
    simp only [List.map_cons, vfindK, sameK, fIdx, if_true]
    by_cases h : n = u.tok
    · simp [h]
    · have h' : (n == u.tok) = false := by simpa using h
      simp only [h', Bool.false_eq_true, if_false]
      exact vfindK_S1_oEnt n l (i + 1)

abbrev KV.ent (x : KV) : V × V := (.int .i64 x.k, .int .i64 x.v)
@[simp] theorem rnO_KV_ent (f : Nat → Nat) (l : List KV) (bs : List Nat) (ck : Nat) : rnO f (.map (l.map KV.ent) bs ck) = .map (l.map KV.ent) bs ck := rnO_map f KV.ent (fun _ => rfl) l bs ck
@[simp] theorem rnO_KV_ent_e (f : Nat → Nat) (l : List KV) (i : Nat) (bs : List Nat) (ck : Nat) : rnO f (.map ((l.map KV.ent).eraseIdx i) bs ck) = .map ((l.map KV.ent).eraseIdx i) bs ck := by
  rw [← map_eraseIdx]; exact rnO_KV_ent f _ bs ck
@[simp] theorem rnO_KV_ent_p (f : Nat → Nat) (l : List KV) (a : Int) (c : Int) (bs : List Nat) (ck : Nat) : rnO f (.map (l.map KV.ent ++ [(.int .i64 a, .int .i64 c)]) bs ck) = .map (l.map KV.ent ++ [(.int .i64 a, .int .i64 c)]) bs ck := by
  have : l.map KV.ent ++ [(.int .i64 a, .int .i64 c)] = (l ++ [(⟨a, c⟩ : KV)]).map KV.ent := by simp
  rw [this]; exact rnO_KV_ent f _ bs ck
theorem KV.ent_modify (l : List KV) (i : Nat) (c : Int) : (l.map KV.ent).modify i (fun e => (e.1, .int .i64 c)) = (l.modify i fun s => ⟨s.k, c⟩).map KV.ent := (map_modify KV.ent _ _ (fun _ => rfl) l i).symm
@[simp] theorem rnO_KV_ent_m (f : Nat → Nat) (l : List KV) (i : Nat) (c : Int) (bs : List Nat) (ck : Nat) : rnO f (.map ((l.map KV.ent).modify i (fun e => (e.1, .int .i64 c))) bs ck) = .map ((l.map KV.ent).modify i (fun e => (e.1, .int .i64 c))) bs ck := by
  rw [KV.ent_modify]; exact rnO_KV_ent f _ bs ck
theorem vfindK_KV_ent (n : Int) : ∀ (l : List KV) (i : Nat), vfindK (.int .i64 n) (l.map KV.ent) i = some ((fIdx (fun u => n == u.k) l i).map fun q => (q.1, (KV.ent q.2).2))
  | [], i => rfl
  | u :: l, i => by
    simp only [List.map_cons, vfindK, sameK, fIdx, if_true]
    by_cases h : n = u.k
    · simp [h]
    · have h' : (n == u.k) = false := by simpa using h
      simp only [h', Bool.false_eq_true, if_false]
      exact vfindK_KV_ent n l (i + 1)

theorem oEnt_mod2 (l : List S1) (i : Nat) (w c : Int) : (l.modify i fun s => ⟨s.tok, w, c⟩).map S1.oEnt = (l.map S1.oEnt).modify i (fun e => (e.1, .int .i64 c)) := map_modify S1.oEnt _ _ (fun _ => rfl) l i
def putKV (l : List KV) (k v : Int) : List KV := match fIdx (fun e => k == e.k) l 0 with
  | some (i, _) => l.modify i fun e => ⟨e.k, v⟩
  | none => l ++ [⟨k, v⟩]
theorem modify_midK {a b : List KV} {x : KV} {k v : Int} (hk : x.k = k) : (a ++ x :: b).modify a.length (fun e => ⟨e.k, v⟩) = a ++ ⟨k, v⟩ :: b := by
  induction a with
  | nil => simp [hk]
  | cons y a ih => simpa using ih
theorem putKV_ok {l : List KV} {k v : Int} (h : (l.map KV.k).Nodup) : ((putKV l k v).map KV.k).Nodup ∧ ∀ e ∈ putKV l k v, (e.k = k ∧ e.v = v) ∨ (e.k ≠ k ∧ e ∈ l) := by
  unfold putKV
  rcases hq : fIdx (fun e => k == e.k) l 0 with _ | ⟨i, s⟩
  · rw [hq]
    simp only
    have hno := fIdx_none hq
    refine ⟨?_, fun e he => ?_⟩
    · rw [List.map_append, List.nodup_append]
      refine ⟨h, by simp, fun a ha b hb => ?_⟩
      obtain ⟨y, hy, rfl⟩ := List.mem_map.1 ha
      have := hno y hy
      simp at this hb
      omega
    · rcases List.mem_append.1 he with q | q
      · have := hno e q
        simp at this
        exact .inr ⟨by omega, q⟩
      · simp at q; subst q; exact .inl ⟨rfl, rfl⟩
  · rw [hq]
    simp only
    obtain ⟨a, b, e, rfl, h1, _⟩ := fIdx_some hq
    have hk : s.k = k := (beq_iff_eq.1 h1).symm
    rw [Nat.zero_add, e, modify_midK hk]
    rw [e, List.map_append, List.map_cons, hk] at h
    refine ⟨by simpa using h, fun x hx => ?_⟩
    rw [List.nodup_append] at h
    obtain ⟨_, h2, h3⟩ := h
    rw [List.nodup_cons] at h2
    rcases List.mem_append.1 hx with q | q
    · exact .inr ⟨fun e => h3 _ (List.mem_map_of_mem q) _ (by simp) e, by simp [q]⟩
    · rcases List.mem_cons.1 q with rfl | q
      · exact .inl ⟨rfl, rfl⟩
      · exact .inr ⟨fun e => h2.1 (by rw [← e]; exact List.mem_map_of_mem q), by simp [q]⟩
theorem Rel.self {p : PT} (h : (p.ss.map S1.tok).Nodup) : Rel p ⟨p.life, p.quota, p.us, p.ss⟩ := ⟨rfl, rfl, rfl, List.Perm.refl _, h⟩
theorem nd_act {p : PT} (h : (p.ss.map S1.tok).Nodup) (hu : p.us.length ≤ 50) (x : Act) : ((p.act x).2.ss.map S1.tok).Nodup := ((Rel.self h).act hu x).2.nd
theorem PT.act_add_ok {p : PT} {x : Act} (h : x.do_ = 0) (he : (p.act x).1.e = 0) : fIdx (fun u => decide (x.name = u.name)) p.us 0 = none ∧ (p.act x).2.us = p.us ++ [⟨x.name, x.secret, x.who⟩] ∧ (p.act x).2.ss = p.ss := by
  rw [p.act0 x h] at he ⊢
  simp only at he ⊢
  unfold PT.add at he ⊢
  grind
theorem PT.act_login_ok {p : PT} {x : Act} (h : x.do_ = 1) (he : (p.act x).1.e = 0) : ∃ i u, fIdx (fun u => decide (x.name = u.name)) p.us 0 = some (i, u) ∧ p.find x.draw x.now = none ∧ (p.act x).1.tok = x.draw ∧ (p.act x).2 = p.put x.draw u.who (x.now + p.life) := by
  rw [p.act1 x h] at he ⊢
  simp only at he ⊢
  rcases hq : fIdx (fun u => decide (x.name = u.name)) p.us 0 with _ | ⟨i, u⟩
  · unfold PT.login at he
    rw [hq] at he
    grind
  · refine ⟨i, u, hq, ?_⟩
    have hfn : ¬ (p.find x.draw x.now).isSome = true → p.find x.draw x.now = none := by
      cases p.find x.draw x.now <;> simp
    unfold PT.login at he ⊢
    rw [hq] at he ⊢
    grind
theorem PT.act_logout_ok {p : PT} {x : Act} (h : x.do_ = 2) (he : (p.act x).1.e = 0) : ∃ i s, fIdx (fun s => x.draw == s.tok) p.ss 0 = some (i, s) ∧ (p.act x).2.us = p.us ∧ (p.act x).2.ss = p.ss.eraseIdx i := by
  rw [p.act2 x h] at he ⊢
  simp only at he ⊢
  unfold PT.logout at he ⊢
  grind
theorem PT.act_skip {p : PT} {x : Act} (h0 : ¬ (x.do_ = 0 ∧ (p.act x).1.e = 0)) (h1 : ¬ (x.do_ = 1 ∧ (p.act x).1.e = 0)) (h2 : ¬ (x.do_ = 2 ∧ (p.act x).1.e = 0)) : (p.act x).2 = p := by
  unfold PT.act PT.add PT.login PT.logout at *
  grind
theorem PT.put_us (p : PT) (a b c : Int) : (p.put a b c).us = p.us := by unfold PT.put; split <;> rfl
/-- What a token was given to, of those that are there. -/
def told (I : List KV) (p : PT) : Prop := ∀ e ∈ I, ∀ s ∈ p.ss, s.tok = e.k → s.who = e.v
theorem told.mem {I : List KV} {p q : PT} (h : told I p) (hs : ∀ s ∈ q.ss, s ∈ p.ss) : told I q := fun e he s h2 => h e he s (hs s h2)
theorem told.put {I : List KV} {p : PT} (h : told I p) (hI : (I.map KV.k).Nodup) (hn : (p.ss.map S1.tok).Nodup) (tok who over : Int) : told (putKV I tok who) (p.put tok who over) := by
  intro e he s hs hk
  have hs2 : (s.tok = tok ∧ s.who = who) ∨ (s.tok ≠ tok ∧ s ∈ p.ss) := by
    have hr := (Rel.self hn).put tok who over
    have := hr.ss.mem_iff.2 hs
    simp only [RT.push, RT.out, List.mem_append, List.mem_filter, List.mem_singleton, decide_eq_true_eq] at this
    rcases this with ⟨q1, q2⟩ | rfl
    · exact .inr ⟨q2, q1⟩
    · exact .inl ⟨rfl, rfl⟩
  rcases (putKV_ok hI).2 e he with ⟨a1, a2⟩ | ⟨a1, a2⟩
  · rcases hs2 with ⟨b1, b2⟩ | ⟨b1, b2⟩
    · rw [a2, b2]
    · exact absurd (hk.trans a1) b1
  · rcases hs2 with ⟨b1, b2⟩ | ⟨b1, b2⟩
    · exact absurd (hk.symm.trans b1) a1
    · exact h e a2 s b2 hk
theorem stells_spec (a b : Int) (l : List Act) (hl : l.length ≤ 140737488355328) (hb : ∀ x ∈ l, x.name.size ≤ 140737488355328 ∧ x.secret.size ≤ 140737488355328) :
    VC P 8 [.int .i64 a, .int .i64 b, .fs l.length (rowsV l)] [] (fun r ob' => r = .bool true) := by
  refine VC_of_vwp_k ent_8 Try.func8 rfl (by simp [Try.ntmps8]) fun R hR => ?_
  refine vwp_seq_k fun K1 hK1 => ?_
  refine vwp_live [0, 1, 2] ?_
  try simp only [argSlots, pruneS, inN, eq_self, reduceIte, ite_true, Nat.reduceAdd, Nat.reduceBEq, Bool.or_true, Bool.true_or, Bool.or_false, Bool.false_or, if_true, if_false, Bool.false_eq_true]
  refine vwp_region hT ?_
  simp [-List.reduceReplicate, PT.obs, lenAct, Try.ntmps8]
  repeat refine ⟨by first | assumption | omega | (rw [spl_length (by simp; omega)]; simp; done) | (intros; omega), ?_⟩
  refine hK1 _ ?_
  try clear hK1 K1
  refine vwp_seq_k fun K2 hK2 => ?_
  refine vwp_seq_k fun K3 hK3 => ?_
  refine vwp_live [0, 1, 2] ?_
  try simp only [argSlots, pruneS, inN, eq_self, reduceIte, ite_true, Nat.reduceAdd, Nat.reduceBEq, Bool.or_true, Bool.true_or, Bool.or_false, Bool.false_or, if_true, if_false, Bool.false_eq_true]
  refine vwp_region hT ?_
  simp [-List.reduceReplicate, PT.obs, lenAct]
  refine vcall_by0 [] (awake18_spec) (by simp) (by simp [PT.obs]) (by simp) (by simp [PT.obs]) ?_
  rintro r ob' ⟨rfl, rfl⟩
  simp [-List.reduceReplicate, PT.obs, lenAct]
  repeat refine ⟨by first | assumption | omega | (rw [spl_length (by simp; omega)]; simp; done) | (intros; omega), ?_⟩
  refine hK3 _ ?_
  try clear hK3 K3
  refine vwp_cond (by first | rfl | (simp; rfl)) (fun h1 => ?_) (fun h1 => ?_)
  · try (exfalso; simp at h1; done)
    all_goals
      try simp at h1
      refine vwp_seq_k fun K4 hK4 => ?_
      refine vwp_live [] ?_
      try simp only [argSlots, pruneS, inN, eq_self, reduceIte, ite_true, Nat.reduceAdd, Nat.reduceBEq, Bool.or_true, Bool.true_or, Bool.or_false, Bool.false_or, if_true, if_false, Bool.false_eq_true]
      refine vwp_region hT ?_
      simp [-List.reduceReplicate, PT.obs, lenAct]
      repeat refine ⟨by first | assumption | omega | (rw [spl_length (by simp; omega)]; simp; done) | (intros; omega), ?_⟩
      refine hK4 _ ?_
      try clear hK4 K4
      refine vwp_ret ?_
      try simp only [thenQ, inBlk]
      refine hR _ _ ?_
      refine ret_only [6] [] [] (by simp) (by simp) rfl (by simp) (r := .bool true) (by simp [Try.f8]) rfl
  · try (exfalso; simp at h1; done)
    all_goals
      try simp at h1
      refine vwp_skip ?_
      try simp only [thenQ, inBlk]
      refine hK2 _ ?_
      try clear hK2 K2
      refine vwp_seq_k fun K5 hK5 => ?_
      refine vwp_seq_k fun K6 hK6 => ?_
      refine vwp_live [0, 1, 2] ?_
      try simp only [argSlots, pruneS, inN, eq_self, reduceIte, ite_true, Nat.reduceAdd, Nat.reduceBEq, Bool.or_true, Bool.true_or, Bool.or_false, Bool.false_or, if_true, if_false, Bool.false_eq_true]
      refine vwp_region hT ?_
      simp [-List.reduceReplicate, PT.obs, lenAct]
      refine vcall_by0 [] (large18_spec l hl hb) (by simp) (by simp [PT.obs]) (by simp) (by simp [PT.obs]) ?_
      rintro r ob' ⟨⟨v, rfl, hv⟩, rfl⟩
      simp [-List.reduceReplicate, PT.obs, lenAct]
      repeat refine ⟨by first | assumption | omega | (rw [spl_length (by simp; omega)]; simp; done) | (intros; omega), ?_⟩
      refine hK6 _ ?_
      try clear hK6 K6
      refine vwp_cond (by first | rfl | (simp; rfl)) (fun h2 => ?_) (fun h2 => ?_)
      · try (exfalso; simp at h2; done)
        all_goals
          try simp at h2
          refine vwp_seq_k fun K7 hK7 => ?_
          refine vwp_live [] ?_
          try simp only [argSlots, pruneS, inN, eq_self, reduceIte, ite_true, Nat.reduceAdd, Nat.reduceBEq, Bool.or_true, Bool.true_or, Bool.or_false, Bool.false_or, if_true, if_false, Bool.false_eq_true]
          refine vwp_region hT ?_
          simp [-List.reduceReplicate, PT.obs, lenAct]
          repeat refine ⟨by first | assumption | omega | (rw [spl_length (by simp; omega)]; simp; done) | (intros; omega), ?_⟩
          refine hK7 _ ?_
          try clear hK7 K7
          refine vwp_ret ?_
          try simp only [thenQ, inBlk]
          refine hR _ _ ?_
          refine ret_only [6] [] [] (by simp) (by simp) rfl (by simp) (r := .bool true) (by simp [Try.f8]) rfl
      · try (exfalso; simp at h2; done)
        all_goals
          try simp at h2
          refine vwp_skip ?_
          try simp only [thenQ, inBlk]
          refine hK5 _ ?_
          try clear hK5 K5
          refine vwp_seq_k fun K8 hK8 => ?_
          by_cases hn : newOK a b
          · have hsm := hv (by assumption)
            refine vwp_live [0, 1, 2] ?_
            try simp only [argSlots, pruneS, inN, eq_self, reduceIte, ite_true, Nat.reduceAdd, Nat.reduceBEq, Bool.or_true, Bool.true_or, Bool.or_false, Bool.false_or, if_true, if_false, Bool.false_eq_true]
            refine vwp_region hT ?_
            simp [-List.reduceReplicate, PT.obs, lenAct]
            refine vcall_by0 [] (snew_spec a b) (by simp) (by simp [PT.obs]) (by simp) (by simp [PT.obs]) ?_
            rintro r ob' ⟨hq, -⟩
            obtain ⟨rfl, rfl⟩ := hq hn
            simp [-List.reduceReplicate, PT.obs, lenAct]
            repeat refine ⟨by first | assumption | omega | (rw [spl_length (by simp; omega)]; simp; done) | (intros; omega), ?_⟩
            refine hK8 _ ?_
            try clear hK8 K8
            refine vwp_seq_k fun K9 hK9 => ?_
            refine vwp_seq_k fun K10 hK10 => ?_
            refine vwp_live [0, 2, 7] ?_
            try simp only [argSlots, pruneS, inN, eq_self, reduceIte, ite_true, Nat.reduceAdd, Nat.reduceBEq, Bool.or_true, Bool.true_or, Bool.or_false, Bool.false_or, if_true, if_false, Bool.false_eq_true]
            refine vwp_region hT ?_
            simp [-List.reduceReplicate, PT.obs, lenAct]
            repeat refine ⟨by first | assumption | omega | (rw [spl_length (by simp; omega)]; simp; done) | (intros; omega), ?_⟩
            refine hK10 _ ?_
            try clear hK10 K10
            refine vwp_cond (by first | rfl | (simp; rfl)) (fun h3 => ?_) (fun h3 => ?_)
            · try (exfalso; simp at h3; done)
              all_goals
                try simp at h3
                refine vwp_seq_k fun K11 hK11 => ?_
                refine vwp_live [] ?_
                try simp only [argSlots, pruneS, inN, eq_self, reduceIte, ite_true, Nat.reduceAdd, Nat.reduceBEq, Bool.or_true, Bool.true_or, Bool.or_false, Bool.false_or, if_true, if_false, Bool.false_eq_true]
                refine vwp_region hT ?_
                simp [-List.reduceReplicate, PT.obs, lenAct]
                repeat refine ⟨by first | assumption | omega | (rw [spl_length (by simp; omega)]; simp; done) | (intros; omega), ?_⟩
                refine hK11 _ ?_
                try clear hK11 K11
                refine vwp_ret ?_
                try simp only [thenQ, inBlk]
                refine hR _ _ ?_
                refine ret_only [6] [] [] (by simp) (by simp) rfl (by simp) (r := .bool true) (by simp [Try.f8]) rfl
            · try (exfalso; simp at h3; done)
              all_goals
                try simp at h3
                refine vwp_skip ?_
                try simp only [thenQ, inBlk]
                refine hK9 _ ?_
                try clear hK9 K9
                refine vwp_seq_k fun K12 hK12 => ?_
                refine vwp_live [0, 2, 7] ?_
                try simp only [argSlots, pruneS, inN, eq_self, reduceIte, ite_true, Nat.reduceAdd, Nat.reduceBEq, Bool.or_true, Bool.true_or, Bool.or_false, Bool.false_or, if_true, if_false, Bool.false_eq_true]
                refine vwp_region hT ?_
                simp [-List.reduceReplicate, PT.obs, lenAct]
                repeat refine ⟨by first | assumption | omega | (rw [spl_length (by simp; omega)]; simp; done) | (intros; omega), ?_⟩
                refine hK12 _ ?_
                try clear hK12 K12
                refine vwp_seq_k fun K13 hK13 => ?_
                refine vwp_live [0, 2, 7, 9] ?_
                try simp only [argSlots, pruneS, inN, eq_self, reduceIte, ite_true, Nat.reduceAdd, Nat.reduceBEq, Bool.or_true, Bool.true_or, Bool.or_false, Bool.false_or, if_true, if_false, Bool.false_eq_true]
                refine vwp_region hT ?_
                simp [-List.reduceReplicate, PT.obs, lenAct]
                repeat refine ⟨by first | assumption | omega | (rw [spl_length (by simp; omega)]; simp; done) | (intros; omega), ?_⟩
                refine hK13 _ ?_
                try clear hK13 K13
                refine vwp_seq_k fun K14 hK14 => ?_
                refine vwp_live [0, 2, 7, 9, 10] ?_
                try simp only [argSlots, pruneS, inN, eq_self, reduceIte, ite_true, Nat.reduceAdd, Nat.reduceBEq, Bool.or_true, Bool.true_or, Bool.or_false, Bool.false_or, if_true, if_false, Bool.false_eq_true]
                refine vwp_region hT ?_
                simp [-List.reduceReplicate, PT.obs, lenAct]
                repeat refine ⟨by first | assumption | omega | (rw [spl_length (by simp; omega)]; simp; done) | (intros; omega), ?_⟩
                refine hK14 _ ?_
                try clear hK14 K14
                refine vwp_seq_k fun K15 hK15 => ?_
                refine vwp_live [0, 2, 7, 9, 10, 11] ?_
                try simp only [argSlots, pruneS, inN, eq_self, reduceIte, ite_true, Nat.reduceAdd, Nat.reduceBEq, Bool.or_true, Bool.true_or, Bool.or_false, Bool.false_or, if_true, if_false, Bool.false_eq_true]
                refine vwp_region hT ?_
                simp [-List.reduceReplicate, PT.obs, lenAct]
                repeat refine ⟨by first | assumption | omega | (rw [spl_length (by simp; omega)]; simp; done) | (intros; omega), ?_⟩
                refine hK15 _ ?_
                try clear hK15 K15
                refine vwp_seq_k fun K16 hK16 => ?_
                refine vwp_seq_k fun K17 hK17 => ?_
                refine vwp_live [0, 2, 7, 9, 10, 11, 12] ?_
                try simp only [argSlots, pruneS, inN, eq_self, reduceIte, ite_true, Nat.reduceAdd, Nat.reduceBEq, Bool.or_true, Bool.true_or, Bool.or_false, Bool.false_or, if_true, if_false, Bool.false_eq_true]
                refine vwp_region hT ?_
                simp [-List.reduceReplicate, PT.obs, lenAct]
                repeat refine ⟨by first | assumption | omega | (rw [spl_length (by simp; omega)]; simp; done) | (intros; omega), ?_⟩
                refine hK17 _ ?_
                try clear hK17 K17
                refine vwp_block ?_
                refine vwp_gh (st' := ⟨[(0, .int .i64 a), (7, .ptr 0 4 0), (9, .mp 3), (10, .mp 4), (11, .mp 5), (12, .int .i64 0), (41, .fs l.length (rowsV l)), (42, .int .i64 (l.length : Int)), (43, .int .i64 ((0 : Nat) : Int))], (PT.new a b).obs ++ [.map (([] : List U).map U.wEnt) [] 0, .map (([] : List KV).map KV.ent) [] 0, .map (([] : List S1).map S1.oEnt) [] 0]⟩) ?_ ?_
                · refine Gh.to [0, 7, 9, 10, 11, 12, 41, 42, 43] [0, 1, 2, 3, 4, 5] _ (_) ?_ ?_ rfl ?_ ?_
                  · simp
                  · simp [PT.obs]
                  · simp [PT.obs]
                  · simp [PT.obs]
                refine vwp_loop_k (fun m st => ∃ (i : Nat) (p : PT) (now : Int) (I : List KV) (wb : List Nat) (wc : Nat) (ib : List Nat) (ic : Nat) (ob : List Nat) (oc : Nat), p.fit i ∧ p.life = a ∧ (p.ss.map S1.tok).Nodup ∧ (I.map KV.k).Nodup ∧ told I p ∧ 0 ≤ now ∧ now ≤ i * 1073741824 ∧ i ≤ l.length ∧ m = l.length - i ∧ st = ⟨[(0, .int .i64 a), (7, .ptr 0 4 0), (9, .mp 3), (10, .mp 4), (11, .mp 5), (12, .int .i64 now), (41, .fs l.length (rowsV l)), (42, .int .i64 (l.length : Int)), (43, .int .i64 ((i : Nat) : Int))], p.obs ++ [.map ((p.us).map U.wEnt) wb wc, .map ((I).map KV.ent) ib ic, .map ((p.ss).map S1.oEnt) ob oc]⟩) l.length ⟨0, _, 0, [], _, _, _, _, _, _, PT.fit.new hn, rfl, List.nodup_nil, List.nodup_nil, fun e he => (by cases he), by omega, by omega, by omega, by simp, rfl⟩ ?_
                rintro m st ⟨i, p, now, I, wb, wc, ib, ic, ob, oc, hfit, hlif, hnd, hIn, htold, hn0, hn1, hi, rfl, rfl⟩
                intro K18 hK18
                refine vwp_seq_k fun K19 hK19 => ?_
                refine vwp_live [0, 7, 9, 10, 11, 12, 41, 42, 43] ?_
                try simp only [argSlots, pruneS, inN, eq_self, reduceIte, ite_true, Nat.reduceAdd, Nat.reduceBEq, Bool.or_true, Bool.true_or, Bool.or_false, Bool.false_or, if_true, if_false, Bool.false_eq_true]
                refine vwp_region hT ?_
                simp [-List.reduceReplicate, PT.obs, lenAct]
                repeat refine ⟨by first | assumption | omega | (rw [spl_length (by simp; omega)]; simp; done) | (intros; omega), ?_⟩
                refine hK19 _ ?_
                try clear hK19 K19
                refine vwp_seq_k fun K20 hK20 => ?_
                refine vwp_cond (by first | rfl | (simp; rfl)) (fun h4 => ?_) (fun h4 => ?_)
                · try (exfalso; simp at h4; done)
                  all_goals
                    try simp at h4
                    refine vwp_skip ?_
                    try simp only [thenQ, inBlk]
                    refine hK20 _ ?_
                    try clear hK20 K20
                    refine vwp_seq_k fun K21 hK21 => ?_
                    refine vwp_block ?_
                    refine vwp_seq_k fun K22 hK22 => ?_
                    obtain ⟨x, hx⟩ : ∃ x, l[i]? = some x := ⟨_, List.getElem?_eq_getElem (by omega)⟩
                    have hdr := dropAct hx
                    have hfs := hfit.s
                    have hfu := hfit.u
                    refine vwp_live [0, 7, 9, 10, 11, 12, 41, 42, 43] ?_
                    try simp only [argSlots, pruneS, inN, eq_self, reduceIte, ite_true, Nat.reduceAdd, Nat.reduceBEq, Bool.or_true, Bool.true_or, Bool.or_false, Bool.false_or, if_true, if_false, Bool.false_eq_true]
                    refine vwp_region hT ?_
                    simp [-List.reduceReplicate, PT.obs, lenAct, hdr]
                    repeat refine ⟨by first | assumption | omega | (rw [spl_length (by simp; omega)]; simp; done) | (intros; omega), ?_⟩
                    refine hK22 _ ?_
                    try clear hK22 K22
                    refine vwp_cut_k (fun st => ∃ n2 : Int, now ≤ n2 ∧ 0 ≤ n2 ∧ n2 ≤ (i + 1) * 1073741824 ∧ Gh ⟨Try.f8.ntmps, 0⟩ st ⟨[(0, .int .i64 a), (7, .ptr 0 4 0), (9, .mp 3), (10, .mp 4), (11, .mp 5), (12, .int .i64 n2), (14, .ptr 6 6 0), (41, .fs l.length (rowsV l)), (42, .int .i64 (l.length : Int)), (43, .int .i64 ((i : Nat) : Int))], p.obs ++ [.map ((p.us).map U.wEnt) wb wc, .map ((I).map KV.ent) ib ic, .map ((p.ss).map S1.oEnt) ob oc] ++ [.live x.cells]⟩) (fun K23 hK23 => ?_) ?_
                    · refine vwp_seq_k fun K24 hK24 => ?_
                      refine vwp_live [0, 7, 9, 10, 11, 12, 14, 41, 42, 43] ?_
                      try simp only [argSlots, pruneS, inN, eq_self, reduceIte, ite_true, Nat.reduceAdd, Nat.reduceBEq, Bool.or_true, Bool.true_or, Bool.or_false, Bool.false_or, if_true, if_false, Bool.false_eq_true]
                      refine vwp_region hT ?_
                      simp [-List.reduceReplicate, PT.obs, lenAct]
                      repeat refine ⟨by first | assumption | omega | (rw [spl_length (by simp; omega)]; simp; done) | (intros; omega), ?_⟩
                      refine hK24 _ ?_
                      try clear hK24 K24
                      refine vwp_cond (by first | rfl | (simp; rfl)) (fun h5 => ?_) (fun h5 => ?_)
                      · try (exfalso; simp at h5; done)
                        all_goals
                          try simp at h5
                          have w1 : IntKind.i64.wrap (now + x.now) = now + x.now := w64 (by omega) (by omega)
                          refine vwp_live [0, 7, 9, 10, 11, 12, 14, 41, 42, 43] ?_
                          try simp only [argSlots, pruneS, inN, eq_self, reduceIte, ite_true, Nat.reduceAdd, Nat.reduceBEq, Bool.or_true, Bool.true_or, Bool.or_false, Bool.false_or, if_true, if_false, Bool.false_eq_true]
                          refine vwp_region hT ?_
                          simp [-List.reduceReplicate, PT.obs, lenAct, w1]
                          repeat refine ⟨by first | assumption | omega | (rw [spl_length (by simp; omega)]; simp; done) | (intros; omega), ?_⟩
                          refine hK23 _ ?_
                          refine ⟨now + x.now, by omega, by omega, by omega, ?_⟩
                          refine Gh.to [0, 7, 9, 10, 11, 12, 14, 41, 42, 43] [0, 1, 2, 3, 4, 5, 6] _ (_) ?_ ?_ rfl ?_ ?_
                          · simp
                          · simp [PT.obs]
                          · simp [PT.obs]
                          · simp [PT.obs]
                      · try (exfalso; simp at h5; done)
                        all_goals
                          try simp at h5
                          refine vwp_skip ?_
                          try simp only [thenQ, inBlk]
                          refine hK23 _ ?_
                          refine ⟨now, by omega, by omega, by omega, ?_⟩
                          refine Gh.to [0, 7, 9, 10, 11, 12, 14, 41, 42, 43] [0, 1, 2, 3, 4, 5, 6] _ (_) ?_ ?_ rfl ?_ ?_
                          · simp
                          · simp [PT.obs]
                          · simp [PT.obs]
                          · simp [PT.obs]
                    · rintro st ⟨n2, hn2, hn20, hn21, hg⟩
                      refine vwp_gh hg ?_
                      clear hg
                      have hfit2 := hfit.act { x with now := n2 }
                      have hnd2 := nd_act hnd hfu { x with now := n2 }
                      have hlif2 : (p.act { x with now := n2 }).2.life = a := (p.act_life _).trans hlif
                      refine vwp_seq_k fun K25 hK25 => ?_
                      refine vwp_live [0, 7, 9, 10, 11, 12, 14, 41, 42, 43] ?_
                      try simp only [argSlots, pruneS, inN, eq_self, reduceIte, ite_true, Nat.reduceAdd, Nat.reduceBEq, Bool.or_true, Bool.true_or, Bool.or_false, Bool.false_or, if_true, if_false, Bool.false_eq_true]
                      refine vwp_region hT ?_
                      simp [-List.reduceReplicate, PT.obs, lenAct]
                      repeat refine ⟨by first | assumption | omega | (rw [spl_length (by simp; omega)]; simp; done) | (intros; omega), ?_⟩
                      refine hK25 _ ?_
                      try clear hK25 K25
                      refine vwp_seq_k fun K26 hK26 => ?_
                      refine vwp_live [0, 7, 9, 10, 11, 12, 14, 41, 42, 43] ?_
                      try simp only [argSlots, pruneS, inN, eq_self, reduceIte, ite_true, Nat.reduceAdd, Nat.reduceBEq, Bool.or_true, Bool.true_or, Bool.or_false, Bool.false_or, if_true, if_false, Bool.false_eq_true]
                      refine vwp_region hT ?_
                      simp [-List.reduceReplicate, PT.obs, lenAct]
                      refine vcall_by0 [0, 1, 2] (do18_spec p (hfit.ok (by omega)) { x with now := n2 }) (by simp) (by simp [PT.obs]) (by simp) (by simp [PT.obs]) ?_
                      rintro r' ob' ⟨rfl, rfl⟩
                      simp [-List.reduceReplicate, PT.obs, lenAct]
                      repeat refine ⟨by first | assumption | omega | (rw [spl_length (by simp; omega)]; simp; done) | (intros; omega), ?_⟩
                      refine hK26 _ ?_
                      try clear hK26 K26
                      refine vwp_cut_k (fun st => ∃ (I2 : List KV) (wb2 : List Nat) (wc2 : Nat) (ib2 : List Nat) (ic2 : Nat) (ob2 : List Nat) (oc2 : Nat), (I2.map KV.k).Nodup ∧ told I2 (p.act { x with now := n2 }).2 ∧ Gh ⟨Try.f8.ntmps, 0⟩ st ⟨[(0, .int .i64 a), (7, .ptr 0 4 0), (9, .mp 3), (10, .mp 4), (11, .mp 5), (12, .int .i64 n2), (41, .fs l.length (rowsV l)), (42, .int .i64 (l.length : Int)), (43, .int .i64 ((i : Nat) : Int))], (p.act { x with now := n2 }).2.obs ++ [.map (((p.act { x with now := n2 }).2.us).map U.wEnt) wb2 wc2, .map ((I2).map KV.ent) ib2 ic2, .map (((p.act { x with now := n2 }).2.ss).map S1.oEnt) ob2 oc2]⟩) (fun K27 hK27 => ?_) ?_
                      · refine vwp_block ?_
                        refine vwp_seq_k fun K28 hK28 => ?_
                        refine vwp_live [0, 7, 9, 10, 11, 12, 14, 15, 41, 42, 43] ?_
                        try simp only [argSlots, pruneS, inN, eq_self, reduceIte, ite_true, Nat.reduceAdd, Nat.reduceBEq, Bool.or_true, Bool.true_or, Bool.or_false, Bool.false_or, if_true, if_false, Bool.false_eq_true]
                        refine vwp_region hT ?_
                        simp [-List.reduceReplicate, PT.obs, lenAct]
                        repeat refine ⟨by first | assumption | omega | (rw [spl_length (by simp; omega)]; simp; done) | (intros; omega), ?_⟩
                        refine hK28 _ ?_
                        try clear hK28 K28
                        refine vwp_cond (by first | rfl | (simp; rfl)) (fun h6 => ?_) (fun h6 => ?_)
                        · try (exfalso; simp at h6; done)
                          all_goals
                            try simp at h6
                            obtain ⟨q1, q2, q3⟩ := PT.act_add_ok (p := p) (x := { x with now := n2 }) (h6).1 (h6).2
                            simp only at q1 q2 q3
                            refine vwp_live [0, 7, 9, 10, 11, 12, 14, 41, 42, 43] ?_
                            try simp only [argSlots, pruneS, inN, eq_self, reduceIte, ite_true, Nat.reduceAdd, Nat.reduceBEq, Bool.or_true, Bool.true_or, Bool.or_false, Bool.false_or, if_true, if_false, Bool.false_eq_true]
                            refine vwp_region hT ?_
                            simp [-List.reduceReplicate, PT.obs, lenAct, vfindK_U_wEnt, q1]
                            repeat refine ⟨by first | assumption | omega | (rw [spl_length (by simp; omega)]; simp; done) | (intros; omega), ?_⟩
                            refine hK27 _ ?_
                            refine ⟨I, wb ++ [wc], wc + 1, ib, ic, ob, oc, hIn, htold.mem (by rw [q3]; simp), ?_⟩
                            refine Gh.to [0, 7, 9, 10, 11, 12, 41, 42, 43] [0, 1, 2, 3, 4, 5] _ (_) ?_ ?_ rfl ?_ ?_
                            · simp
                            · simp [PT.obs, q2, q3]
                            · simp [PT.obs, q2, q3]
                            · simp [PT.obs, q2, q3]
                        · try (exfalso; simp at h6; done)
                          all_goals
                            try simp at h6
                            refine vwp_seq_k fun K29 hK29 => ?_
                            refine vwp_live [0, 7, 9, 10, 11, 12, 14, 15, 41, 42, 43] ?_
                            try simp only [argSlots, pruneS, inN, eq_self, reduceIte, ite_true, Nat.reduceAdd, Nat.reduceBEq, Bool.or_true, Bool.true_or, Bool.or_false, Bool.false_or, if_true, if_false, Bool.false_eq_true]
                            refine vwp_region hT ?_
                            simp [-List.reduceReplicate, PT.obs, lenAct]
                            repeat refine ⟨by first | assumption | omega | (rw [spl_length (by simp; omega)]; simp; done) | (intros; omega), ?_⟩
                            refine hK29 _ ?_
                            try clear hK29 K29
                            refine vwp_cond (by first | rfl | (simp; rfl)) (fun h7 => ?_) (fun h7 => ?_)
                            · try (exfalso; simp at h7; done)
                              all_goals
                                try simp at h7
                                obtain ⟨iu, u, q1, q2, q3, q4⟩ := PT.act_login_ok (p := p) (x := { x with now := n2 }) (h7).1 (h7).2
                                simp only at q1 q2 q3 q4
                                refine vwp_seq_k fun K30 hK30 => ?_
                                refine vwp_live [0, 7, 9, 10, 11, 12, 14, 15, 41, 42, 43] ?_
                                try simp only [argSlots, pruneS, inN, eq_self, reduceIte, ite_true, Nat.reduceAdd, Nat.reduceBEq, Bool.or_true, Bool.true_or, Bool.or_false, Bool.false_or, if_true, if_false, Bool.false_eq_true]
                                refine vwp_region hT ?_
                                simp [-List.reduceReplicate, PT.obs, lenAct, vfindK_U_wEnt, q1]
                                repeat refine ⟨by first | assumption | omega | (rw [spl_length (by simp; omega)]; simp; done) | (intros; omega), ?_⟩
                                refine hK30 _ ?_
                                try clear hK30 K30
                                refine vwp_seq_k fun K31 hK31 => ?_
                                refine vwp_seq_k fun K32 hK32 => ?_
                                rcases hqo : fIdx (fun s => x.draw == s.tok) p.ss 0 with _ | ⟨jo, so⟩
                                · refine vwp_live [0, 7, 9, 10, 11, 12, 14, 15, 16, 17, 41, 42, 43] ?_
                                  try simp only [argSlots, pruneS, inN, eq_self, reduceIte, ite_true, Nat.reduceAdd, Nat.reduceBEq, Bool.or_true, Bool.true_or, Bool.or_false, Bool.false_or, if_true, if_false, Bool.false_eq_true]
                                  refine vwp_region hT ?_
                                  simp [-List.reduceReplicate, PT.obs, lenAct, vfindK_S1_oEnt, hqo]
                                  repeat refine ⟨by first | assumption | omega | (rw [spl_length (by simp; omega)]; simp; done) | (intros; omega), ?_⟩
                                  refine hK32 _ ?_
                                  try clear hK32 K32
                                  refine vwp_seq_k fun K33 hK33 => ?_
                                  refine vwp_live [0, 7, 9, 10, 11, 12, 14, 15, 16, 17, 19, 41, 42, 43] ?_
                                  try simp only [argSlots, pruneS, inN, eq_self, reduceIte, ite_true, Nat.reduceAdd, Nat.reduceBEq, Bool.or_true, Bool.true_or, Bool.or_false, Bool.false_or, if_true, if_false, Bool.false_eq_true]
                                  refine vwp_region hT ?_
                                  simp [-List.reduceReplicate, PT.obs, lenAct, vfindK_S1_oEnt, hqo, q3]
                                  repeat refine ⟨by first | assumption | omega | (rw [spl_length (by simp; omega)]; simp; done) | (intros; omega), ?_⟩
                                  refine hK33 _ ?_
                                  try clear hK33 K33
                                  refine vwp_cond (by first | rfl | (simp; rfl)) (fun h8 => ?_) (fun h8 => ?_)
                                  · try (exfalso; simp at h8; done)
                                    all_goals
                                      try simp at h8
                                      refine vwp_seq_k fun K34 hK34 => ?_
                                      refine vwp_live [] ?_
                                      try simp only [argSlots, pruneS, inN, eq_self, reduceIte, ite_true, Nat.reduceAdd, Nat.reduceBEq, Bool.or_true, Bool.true_or, Bool.or_false, Bool.false_or, if_true, if_false, Bool.false_eq_true]
                                      refine vwp_region hT ?_
                                      simp [-List.reduceReplicate, PT.obs, lenAct]
                                      repeat refine ⟨by first | assumption | omega | (rw [spl_length (by simp; omega)]; simp; done) | (intros; omega), ?_⟩
                                      refine hK34 _ ?_
                                      try clear hK34 K34
                                      refine vwp_ret ?_
                                      try simp only [thenQ, inBlk]
                                      refine hR _ _ ?_
                                      refine ret_only [6] [] [] (by simp) (by simp) rfl (by simp) (r := .bool true) (by simp [Try.f8]) rfl
                                  · try (exfalso; simp at h8; done)
                                    all_goals
                                      try simp at h8
                                      refine vwp_skip ?_
                                      try simp only [thenQ, inBlk]
                                      refine hK31 _ ?_
                                      try clear hK31 K31
                                      have w2 : IntKind.i64.wrap (n2 + a) = n2 + a := w64 (by have := hfit.l1; omega) (by have := hfit.l2; omega)
                                      rcases hqi : fIdx (fun e => x.draw == e.k) I 0 with _ | ⟨ji, si⟩
                                      · refine vwp_live [0, 7, 9, 10, 11, 12, 14, 16, 41, 42, 43] ?_
                                        try simp only [argSlots, pruneS, inN, eq_self, reduceIte, ite_true, Nat.reduceAdd, Nat.reduceBEq, Bool.or_true, Bool.true_or, Bool.or_false, Bool.false_or, if_true, if_false, Bool.false_eq_true]
                                        refine vwp_storm hT hm [.pure, .win 0 0, .win 0 0, .pure, .win 0 1, .win 0 1, .pure, .pure, .pure, .win 0 1, .mv, .mv] [[], [], [1], [], [], [4], [], [], [], [7, 8], [0, 1, 2, 6], [0, 1, 2, 3, 4, 5, 6, 7, 8, 9, 10]] (by kernel_rfl) ?_
                                        simp [-List.reduceReplicate, PT.obs, lenAct, vfindK_S1_oEnt, vfindK_KV_ent, hqo, hqi, w2]
                                        repeat refine ⟨by first | assumption | omega | (rw [spl_length (by simp; omega)]; simp; done) | (intros; omega), ?_⟩
                                        refine hK27 _ ?_
                                        refine ⟨putKV I x.draw u.who, wb, wc, ib ++ [ic], ic + 1, ob ++ [oc], oc + 1, (putKV_ok hIn).1, by rw [q4]; exact htold.put hIn hnd _ _ _, ?_⟩
                                        refine Gh.to [0, 7, 9, 10, 11, 12, 41, 42, 43] [0, 1, 2, 3, 4, 5] _ (_) ?_ ?_ rfl ?_ ?_
                                        · simp
                                        · simp [PT.obs, q4, PT.put, putKV, hqo, hqi, KV.ent_modify, oEnt_mod2, hlif]
                                        · simp [PT.obs, q4, PT.put, putKV, hqo, hqi, KV.ent_modify, oEnt_mod2, hlif]
                                        · simp [PT.obs, q4, PT.put, putKV, hqo, hqi, KV.ent_modify, oEnt_mod2, hlif]
                                      · refine vwp_live [0, 7, 9, 10, 11, 12, 14, 16, 41, 42, 43] ?_
                                        try simp only [argSlots, pruneS, inN, eq_self, reduceIte, ite_true, Nat.reduceAdd, Nat.reduceBEq, Bool.or_true, Bool.true_or, Bool.or_false, Bool.false_or, if_true, if_false, Bool.false_eq_true]
                                        refine vwp_storm hT hm [.pure, .win 0 0, .win 0 0, .pure, .win 0 1, .win 0 1, .pure, .pure, .pure, .win 0 1, .mv, .mv] [[], [], [1], [], [], [4], [], [], [], [7, 8], [0, 1, 2, 6], [0, 1, 2, 3, 4, 5, 6, 7, 8, 9, 10]] (by kernel_rfl) ?_
                                        simp [-List.reduceReplicate, PT.obs, lenAct, vfindK_S1_oEnt, vfindK_KV_ent, hqo, hqi, w2]
                                        repeat refine ⟨by first | assumption | omega | (rw [spl_length (by simp; omega)]; simp; done) | (intros; omega), ?_⟩
                                        refine hK27 _ ?_
                                        refine ⟨putKV I x.draw u.who, wb, wc, ib, ic, ob ++ [oc], oc + 1, (putKV_ok hIn).1, by rw [q4]; exact htold.put hIn hnd _ _ _, ?_⟩
                                        refine Gh.to [0, 7, 9, 10, 11, 12, 41, 42, 43] [0, 1, 2, 3, 4, 5] _ (_) ?_ ?_ rfl ?_ ?_
                                        · simp
                                        · simp [PT.obs, q4, PT.put, putKV, hqo, hqi, KV.ent_modify, oEnt_mod2, hlif]
                                        · simp [PT.obs, q4, PT.put, putKV, hqo, hqi, KV.ent_modify, oEnt_mod2, hlif]
                                        · simp [PT.obs, q4, PT.put, putKV, hqo, hqi, KV.ent_modify, oEnt_mod2, hlif]
                                · have hno := PT.find_none_some q2 hqo
                                  refine vwp_live [0, 7, 9, 10, 11, 12, 14, 15, 16, 17, 41, 42, 43] ?_
                                  try simp only [argSlots, pruneS, inN, eq_self, reduceIte, ite_true, Nat.reduceAdd, Nat.reduceBEq, Bool.or_true, Bool.true_or, Bool.or_false, Bool.false_or, if_true, if_false, Bool.false_eq_true]
                                  refine vwp_region hT ?_
                                  simp [-List.reduceReplicate, PT.obs, lenAct, vfindK_S1_oEnt, hqo]
                                  repeat refine ⟨by first | assumption | omega | (rw [spl_length (by simp; omega)]; simp; done) | (intros; omega), ?_⟩
                                  refine hK32 _ ?_
                                  try clear hK32 K32
                                  refine vwp_seq_k fun K35 hK35 => ?_
                                  refine vwp_live [0, 7, 9, 10, 11, 12, 14, 15, 16, 17, 19, 41, 42, 43] ?_
                                  try simp only [argSlots, pruneS, inN, eq_self, reduceIte, ite_true, Nat.reduceAdd, Nat.reduceBEq, Bool.or_true, Bool.true_or, Bool.or_false, Bool.false_or, if_true, if_false, Bool.false_eq_true]
                                  refine vwp_region hT ?_
                                  simp [-List.reduceReplicate, PT.obs, lenAct, vfindK_S1_oEnt, hqo, q3, hno]
                                  repeat refine ⟨by first | assumption | omega | (rw [spl_length (by simp; omega)]; simp; done) | (intros; omega), ?_⟩
                                  refine hK35 _ ?_
                                  try clear hK35 K35
                                  refine vwp_cond (by first | rfl | (simp; rfl)) (fun h9 => ?_) (fun h9 => ?_)
                                  · try (exfalso; simp at h9; done)
                                    all_goals
                                      try simp at h9
                                      refine vwp_seq_k fun K36 hK36 => ?_
                                      refine vwp_live [] ?_
                                      try simp only [argSlots, pruneS, inN, eq_self, reduceIte, ite_true, Nat.reduceAdd, Nat.reduceBEq, Bool.or_true, Bool.true_or, Bool.or_false, Bool.false_or, if_true, if_false, Bool.false_eq_true]
                                      refine vwp_region hT ?_
                                      simp [-List.reduceReplicate, PT.obs, lenAct]
                                      repeat refine ⟨by first | assumption | omega | (rw [spl_length (by simp; omega)]; simp; done) | (intros; omega), ?_⟩
                                      refine hK36 _ ?_
                                      try clear hK36 K36
                                      refine vwp_ret ?_
                                      try simp only [thenQ, inBlk]
                                      refine hR _ _ ?_
                                      refine ret_only [6] [] [] (by simp) (by simp) rfl (by simp) (r := .bool true) (by simp [Try.f8]) rfl
                                  · try (exfalso; simp at h9; done)
                                    all_goals
                                      try simp at h9
                                      refine vwp_skip ?_
                                      try simp only [thenQ, inBlk]
                                      refine hK31 _ ?_
                                      try clear hK31 K31
                                      have w2 : IntKind.i64.wrap (n2 + a) = n2 + a := w64 (by have := hfit.l1; omega) (by have := hfit.l2; omega)
                                      rcases hqi : fIdx (fun e => x.draw == e.k) I 0 with _ | ⟨ji, si⟩
                                      · refine vwp_live [0, 7, 9, 10, 11, 12, 14, 16, 41, 42, 43] ?_
                                        try simp only [argSlots, pruneS, inN, eq_self, reduceIte, ite_true, Nat.reduceAdd, Nat.reduceBEq, Bool.or_true, Bool.true_or, Bool.or_false, Bool.false_or, if_true, if_false, Bool.false_eq_true]
                                        refine vwp_storm hT hm [.pure, .win 0 0, .win 0 0, .pure, .win 0 1, .win 0 1, .pure, .pure, .pure, .win 0 1, .mv, .mv] [[], [], [1], [], [], [4], [], [], [], [7, 8], [0, 1, 2, 6], [0, 1, 2, 3, 4, 5, 6, 7, 8, 9, 10]] (by kernel_rfl) ?_
                                        simp [-List.reduceReplicate, PT.obs, lenAct, vfindK_S1_oEnt, vfindK_KV_ent, hqo, hqi, w2]
                                        repeat refine ⟨by first | assumption | omega | (rw [spl_length (by simp; omega)]; simp; done) | (intros; omega), ?_⟩
                                        refine hK27 _ ?_
                                        refine ⟨putKV I x.draw u.who, wb, wc, ib ++ [ic], ic + 1, ob, oc, (putKV_ok hIn).1, by rw [q4]; exact htold.put hIn hnd _ _ _, ?_⟩
                                        refine Gh.to [0, 7, 9, 10, 11, 12, 41, 42, 43] [0, 1, 2, 3, 4, 5] _ (_) ?_ ?_ rfl ?_ ?_
                                        · simp
                                        · simp [PT.obs, q4, PT.put, putKV, hqo, hqi, KV.ent_modify, oEnt_mod2, hlif]
                                        · simp [PT.obs, q4, PT.put, putKV, hqo, hqi, KV.ent_modify, oEnt_mod2, hlif]
                                        · simp [PT.obs, q4, PT.put, putKV, hqo, hqi, KV.ent_modify, oEnt_mod2, hlif]
                                      · refine vwp_live [0, 7, 9, 10, 11, 12, 14, 16, 41, 42, 43] ?_
                                        try simp only [argSlots, pruneS, inN, eq_self, reduceIte, ite_true, Nat.reduceAdd, Nat.reduceBEq, Bool.or_true, Bool.true_or, Bool.or_false, Bool.false_or, if_true, if_false, Bool.false_eq_true]
                                        refine vwp_storm hT hm [.pure, .win 0 0, .win 0 0, .pure, .win 0 1, .win 0 1, .pure, .pure, .pure, .win 0 1, .mv, .mv] [[], [], [1], [], [], [4], [], [], [], [7, 8], [0, 1, 2, 6], [0, 1, 2, 3, 4, 5, 6, 7, 8, 9, 10]] (by kernel_rfl) ?_
                                        simp [-List.reduceReplicate, PT.obs, lenAct, vfindK_S1_oEnt, vfindK_KV_ent, hqo, hqi, w2]
                                        repeat refine ⟨by first | assumption | omega | (rw [spl_length (by simp; omega)]; simp; done) | (intros; omega), ?_⟩
                                        refine hK27 _ ?_
                                        refine ⟨putKV I x.draw u.who, wb, wc, ib, ic, ob, oc, (putKV_ok hIn).1, by rw [q4]; exact htold.put hIn hnd _ _ _, ?_⟩
                                        refine Gh.to [0, 7, 9, 10, 11, 12, 41, 42, 43] [0, 1, 2, 3, 4, 5] _ (_) ?_ ?_ rfl ?_ ?_
                                        · simp
                                        · simp [PT.obs, q4, PT.put, putKV, hqo, hqi, KV.ent_modify, oEnt_mod2, hlif]
                                        · simp [PT.obs, q4, PT.put, putKV, hqo, hqi, KV.ent_modify, oEnt_mod2, hlif]
                                        · simp [PT.obs, q4, PT.put, putKV, hqo, hqi, KV.ent_modify, oEnt_mod2, hlif]
                            · try (exfalso; simp at h7; done)
                              all_goals
                                try simp at h7
                                refine vwp_seq_k fun K37 hK37 => ?_
                                refine vwp_live [0, 7, 9, 10, 11, 12, 14, 15, 41, 42, 43] ?_
                                try simp only [argSlots, pruneS, inN, eq_self, reduceIte, ite_true, Nat.reduceAdd, Nat.reduceBEq, Bool.or_true, Bool.true_or, Bool.or_false, Bool.false_or, if_true, if_false, Bool.false_eq_true]
                                refine vwp_region hT ?_
                                simp [-List.reduceReplicate, PT.obs, lenAct]
                                repeat refine ⟨by first | assumption | omega | (rw [spl_length (by simp; omega)]; simp; done) | (intros; omega), ?_⟩
                                refine hK37 _ ?_
                                try clear hK37 K37
                                refine vwp_cond (by first | rfl | (simp; rfl)) (fun h10 => ?_) (fun h10 => ?_)
                                · try (exfalso; simp at h10; done)
                                  all_goals
                                    try simp at h10
                                    obtain ⟨jo, so, q1, q2, q3⟩ := PT.act_logout_ok (p := p) (x := { x with now := n2 }) (h10).1 (h10).2
                                    simp only at q1 q2 q3
                                    refine vwp_live [0, 7, 9, 10, 11, 12, 14, 41, 42, 43] ?_
                                    try simp only [argSlots, pruneS, inN, eq_self, reduceIte, ite_true, Nat.reduceAdd, Nat.reduceBEq, Bool.or_true, Bool.true_or, Bool.or_false, Bool.false_or, if_true, if_false, Bool.false_eq_true]
                                    refine vwp_region hT ?_
                                    simp [-List.reduceReplicate, PT.obs, lenAct, vfindK_S1_oEnt, q1]
                                    repeat refine ⟨by first | assumption | omega | (rw [spl_length (by simp; omega)]; simp; done) | (intros; omega), ?_⟩
                                    refine hK27 _ ?_
                                    refine ⟨I, wb, wc, ib, ic, ob.eraseIdx jo, oc, hIn, htold.mem (by rw [q3]; exact fun s hs => List.mem_of_mem_eraseIdx hs), ?_⟩
                                    refine Gh.to [0, 7, 9, 10, 11, 12, 41, 42, 43] [0, 1, 2, 3, 4, 5] _ (_) ?_ ?_ rfl ?_ ?_
                                    · simp
                                    · simp [PT.obs, q2, q3, map_eraseIdx]
                                    · simp [PT.obs, q2, q3, map_eraseIdx]
                                    · simp [PT.obs, q2, q3, map_eraseIdx]
                                · try (exfalso; simp at h10; done)
                                  all_goals
                                    try simp at h10
                                    have q := PT.act_skip (p := p) (x := { x with now := n2 }) (by simp only; grind) (by simp only; grind) (by simp only; grind)
                                    refine vwp_skip ?_
                                    try simp only [thenQ, inBlk]
                                    refine hK27 _ ?_
                                    refine ⟨I, wb, wc, ib, ic, ob, oc, hIn, by rw [q]; exact htold, ?_⟩
                                    refine Gh.to [0, 7, 9, 10, 11, 12, 41, 42, 43] [0, 1, 2, 3, 4, 5] _ (_) ?_ ?_ rfl ?_ ?_
                                    · simp
                                    · simp [PT.obs, q]
                                    · simp [PT.obs, q]
                                    · simp [PT.obs, q]
                      · rintro st ⟨I2, wb2, wc2, ib2, ic2, ob2, oc2, hIn2, htold2, hg⟩
                        refine vwp_gh hg ?_
                        clear hg
                        generalize (p.act { x with now := n2 }).2 = p2 at hfit2 hnd2 hlif2 htold2 ⊢
                        have hfs2 := hfit2.s
                        refine vwp_seq_k fun K38 hK38 => ?_
                        refine vwp_live [0, 7, 9, 10, 11, 12, 41, 42, 43] ?_
                        try simp only [argSlots, pruneS, inN, eq_self, reduceIte, ite_true, Nat.reduceAdd, Nat.reduceBEq, Bool.or_true, Bool.true_or, Bool.or_false, Bool.false_or, if_true, if_false, Bool.false_eq_true]
                        refine vwp_region hT ?_
                        simp [-List.reduceReplicate, PT.obs, lenAct]
                        repeat refine ⟨by first | assumption | omega | (rw [spl_length (by simp; omega)]; simp; done) | (intros; omega), ?_⟩
                        refine hK38 _ ?_
                        try clear hK38 K38
                        refine vwp_block ?_
                        refine vwp_map 4 (es := I2.map KV.ent) (bs := ib2) (ck := ic2) (by simp) fun hml hmn hmk => ?_
                        simp only [List.length_map] at hml
                        refine vwp_gh (st' := ⟨[(0, .int .i64 a), (7, .ptr 0 4 0), (9, .mp 3), (10, .mp 4), (11, .mp 5), (12, .int .i64 n2), (41, .fs l.length (rowsV l)), (42, .int .i64 (l.length : Int)), (43, .int .i64 ((i : Nat) : Int)), (144, .ptr 6 0 0)], p2.obs ++ [.map ((p2.us).map U.wEnt) wb2 wc2, .map ((I2).map KV.ent) ib2 ic2, .map ((p2.ss).map S1.oEnt) ob2 oc2] ++ [.iter (.mp 4) ic2 [] ic2]⟩) ?_ ?_
                        · refine Gh.to [0, 7, 9, 10, 11, 12, 41, 42, 43, 144] [0, 1, 2, 3, 4, 5, 6] _ (_) ?_ ?_ rfl ?_ ?_
                          · simp
                          · simp [PT.obs]
                          · simp [PT.obs]
                          · simp [PT.obs]
                        refine vwp_loop_k (fun m st => ∃ seen is : List Nat, Seen ib2 seen is ∧ m = ib2.length - is.length ∧ st = ⟨[(0, .int .i64 a), (7, .ptr 0 4 0), (9, .mp 3), (10, .mp 4), (11, .mp 5), (12, .int .i64 n2), (41, .fs l.length (rowsV l)), (42, .int .i64 (l.length : Int)), (43, .int .i64 ((i : Nat) : Int)), (144, .ptr 6 0 0)], p2.obs ++ [.map ((p2.us).map U.wEnt) wb2 wc2, .map ((I2).map KV.ent) ib2 ic2, .map ((p2.ss).map S1.oEnt) ob2 oc2] ++ [.iter (.mp 4) ic2 seen ic2]⟩) ib2.length ⟨[], [], Seen.nil _, by simp, rfl⟩ ?_
                        rintro m st ⟨seen, is, hseen, rfl, rfl⟩
                        intro K39 hK39
                        refine vwp_seq_k fun K40 hK40 => ?_
                        refine vwp_live [0, 7, 9, 10, 11, 12, 41, 42, 43, 144] ?_
                        try simp only [argSlots, pruneS, inN, eq_self, reduceIte, ite_true, Nat.reduceAdd, Nat.reduceBEq, Bool.or_true, Bool.true_or, Bool.or_false, Bool.false_or, if_true, if_false, Bool.false_eq_true]
                        refine vwp_region hT ?_
                        simp [-List.reduceReplicate, PT.obs, lenAct]
                        refine ⟨?_, fun hall => ?_⟩
                        · rintro iz n kk vv hiz e he rfl rfl hns
                          have hfb : vfindB n ib2 (I2.map KV.ent) = some e.ent := vfindB_get hmn hiz (by simp [he])
                          have hsl := (hseen.step hiz hns).le
                          simp only [List.length_append, List.length_cons, List.length_nil] at hsl
                          have hte := fun s hs hk => htold2 e (List.mem_of_getElem? he) s hs hk
                          repeat refine ⟨by first | assumption | omega | (rw [spl_length (by simp; omega)]; simp; done) | (intros; omega), ?_⟩
                          refine hK40 _ ?_
                          try clear hK40 K40
                          refine vwp_seq_k fun K41 hK41 => ?_
                          refine vwp_cond (by first | rfl | (simp; rfl)) (fun h11 => ?_) (fun h11 => ?_)
                          · try (exfalso; simp at h11; done)
                            all_goals
                              try simp at h11
                              refine vwp_skip ?_
                              try simp only [thenQ, inBlk]
                              refine hK41 _ ?_
                              try clear hK41 K41
                              refine vwp_block ?_
                              refine vwp_seq_k fun K42 hK42 => ?_
                              refine vwp_live [0, 7, 9, 10, 11, 12, 41, 42, 43, 144] ?_
                              try simp only [argSlots, pruneS, inN, eq_self, reduceIte, ite_true, Nat.reduceAdd, Nat.reduceBEq, Bool.or_true, Bool.true_or, Bool.or_false, Bool.false_or, if_true, if_false, Bool.false_eq_true]
                              refine vwp_region hT ?_
                              simp [-List.reduceReplicate, PT.obs, lenAct, hfb]
                              repeat refine ⟨by first | assumption | omega | (rw [spl_length (by simp; omega)]; simp; done) | (intros; omega), ?_⟩
                              refine hK42 _ ?_
                              try clear hK42 K42
                              refine vwp_seq_k fun K43 hK43 => ?_
                              rcases hqk : fIdx (fun s => e.k == s.tok) p2.ss 0 with _ | ⟨jk, sk⟩
                              · have hwho : p2.who e.k n2 = (0, 11) := by simp [PT.who, PT.find, hqk]
                                refine vwp_live [0, 7, 9, 10, 11, 12, 20, 21, 41, 42, 43, 144] ?_
                                try simp only [argSlots, pruneS, inN, eq_self, reduceIte, ite_true, Nat.reduceAdd, Nat.reduceBEq, Bool.or_true, Bool.true_or, Bool.or_false, Bool.false_or, if_true, if_false, Bool.false_eq_true]
                                refine vwp_region hT ?_
                                simp [-List.reduceReplicate, PT.obs, lenAct, vfindK_S1_oEnt, hqk]
                                repeat refine ⟨by first | assumption | omega | (rw [spl_length (by simp; omega)]; simp; done) | (intros; omega), ?_⟩
                                refine hK43 _ ?_
                                try clear hK43 K43
                                refine vwp_seq_k fun K44 hK44 => ?_
                                refine vwp_live [0, 7, 9, 10, 11, 12, 20, 21, 22, 23, 41, 42, 43, 144] ?_
                                try simp only [argSlots, pruneS, inN, eq_self, reduceIte, ite_true, Nat.reduceAdd, Nat.reduceBEq, Bool.or_true, Bool.true_or, Bool.or_false, Bool.false_or, if_true, if_false, Bool.false_eq_true]
                                refine vwp_region hT ?_
                                simp [-List.reduceReplicate, PT.obs, lenAct, hwho]
                                refine vcall_by0 [0, 1, 2] (who_spec p2 e.k n2) (by simp) (by simp [PT.obs]) (by simp) (by simp [PT.obs]) ?_
                                rintro r' ob' ⟨rfl, rfl⟩
                                simp [-List.reduceReplicate, PT.obs, lenAct, hwho]
                                repeat refine ⟨by first | assumption | omega | (rw [spl_length (by simp; omega)]; simp; done) | (intros; omega), ?_⟩
                                refine hK44 _ ?_
                                try clear hK44 K44
                                refine vwp_seq_k fun K45 hK45 => ?_
                                refine vwp_live [0, 7, 9, 10, 11, 12, 21, 22, 23, 24, 25, 41, 42, 43, 144] ?_
                                try simp only [argSlots, pruneS, inN, eq_self, reduceIte, ite_true, Nat.reduceAdd, Nat.reduceBEq, Bool.or_true, Bool.true_or, Bool.or_false, Bool.false_or, if_true, if_false, Bool.false_eq_true]
                                refine vwp_region hT ?_
                                simp [-List.reduceReplicate, PT.obs, lenAct]
                                repeat refine ⟨by first | assumption | omega | (rw [spl_length (by simp; omega)]; simp; done) | (intros; omega), ?_⟩
                                refine hK45 _ ?_
                                try clear hK45 K45
                                refine vwp_cond (by first | rfl | (simp; rfl)) (fun h12 => ?_) (fun h12 => ?_)
                                · try (exfalso; simp at h12; done)
                                  all_goals
                                    try simp at h12
                                    refine vwp_seq_k fun K46 hK46 => ?_
                                    refine vwp_live [0, 7, 9, 10, 11, 12, 21, 24, 25, 41, 42, 43, 144] ?_
                                    try simp only [argSlots, pruneS, inN, eq_self, reduceIte, ite_true, Nat.reduceAdd, Nat.reduceBEq, Bool.or_true, Bool.true_or, Bool.or_false, Bool.false_or, if_true, if_false, Bool.false_eq_true]
                                    refine vwp_region hT ?_
                                    simp [-List.reduceReplicate, PT.obs, lenAct]
                                    repeat refine ⟨by first | assumption | omega | (rw [spl_length (by simp; omega)]; simp; done) | (intros; omega), ?_⟩
                                    refine hK46 _ ?_
                                    try clear hK46 K46
                                    refine vwp_cond (by first | rfl | (simp; rfl)) (fun h13 => ?_) (fun h13 => ?_)
                                    · try (exfalso; simp at h13; done)
                                      all_goals
                                        try simp at h13
                                        refine vwp_seq_k fun K47 hK47 => ?_
                                        refine vwp_live [] ?_
                                        try simp only [argSlots, pruneS, inN, eq_self, reduceIte, ite_true, Nat.reduceAdd, Nat.reduceBEq, Bool.or_true, Bool.true_or, Bool.or_false, Bool.false_or, if_true, if_false, Bool.false_eq_true]
                                        refine vwp_region hT ?_
                                        simp [-List.reduceReplicate, PT.obs, lenAct]
                                        repeat refine ⟨by first | assumption | omega | (rw [spl_length (by simp; omega)]; simp; done) | (intros; omega), ?_⟩
                                        refine hK47 _ ?_
                                        try clear hK47 K47
                                        refine vwp_ret ?_
                                        try simp only [thenQ, inBlk]
                                        refine hR _ _ ?_
                                        refine ret_only [6] [] [] (by simp) (by simp) rfl (by simp) (r := .bool true) (by simp [Try.f8]) rfl
                                    · try (exfalso; simp at h13; done)
                                      all_goals
                                        try simp at h13
                                        refine vwp_skip ?_
                                        try simp only [thenQ, inBlk]
                                        refine hK39 _ ?_
                                        refine ⟨⟨[(0, .int .i64 a), (7, .ptr 0 4 0), (9, .mp 3), (10, .mp 4), (11, .mp 5), (12, .int .i64 n2), (41, .fs l.length (rowsV l)), (42, .int .i64 (l.length : Int)), (43, .int .i64 ((i : Nat) : Int)), (144, .ptr 6 0 0)], p2.obs ++ [.map ((p2.us).map U.wEnt) wb2 wc2, .map ((I2).map KV.ent) ib2 ic2, .map ((p2.ss).map S1.oEnt) ob2 oc2] ++ [.iter (.mp 4) ic2 (seen ++ [n]) ic2]⟩, ?_, ib2.length - (is ++ [iz]).length, by simp; omega, seen ++ [n], is ++ [iz], hseen.step hiz hns, rfl, rfl⟩
                                        refine Gh.to [0, 7, 9, 10, 11, 12, 41, 42, 43, 144] [0, 1, 2, 3, 4, 5, 6] _ (_) ?_ ?_ rfl ?_ ?_
                                        · simp
                                        · simp [PT.obs]
                                        · simp [PT.obs]
                                        · simp [PT.obs]
                                · try (exfalso; simp at h12; done)
                                  all_goals
                                    try simp at h12
                                    refine vwp_seq_k fun K48 hK48 => ?_
                                    refine vwp_live [0, 7, 9, 10, 11, 12, 24, 25, 41, 42, 43, 144] ?_
                                    try simp only [argSlots, pruneS, inN, eq_self, reduceIte, ite_true, Nat.reduceAdd, Nat.reduceBEq, Bool.or_true, Bool.true_or, Bool.or_false, Bool.false_or, if_true, if_false, Bool.false_eq_true]
                                    refine vwp_region hT ?_
                                    simp [-List.reduceReplicate, PT.obs, lenAct]
                                    repeat refine ⟨by first | assumption | omega | (rw [spl_length (by simp; omega)]; simp; done) | (intros; omega), ?_⟩
                                    refine hK48 _ ?_
                                    try clear hK48 K48
                                    refine vwp_cond (by first | rfl | (simp; rfl)) (fun h14 => ?_) (fun h14 => ?_)
                                    · try (exfalso; simp at h14; done)
                                      all_goals
                                        try simp at h14
                                        refine vwp_seq_k fun K49 hK49 => ?_
                                        refine vwp_live [] ?_
                                        try simp only [argSlots, pruneS, inN, eq_self, reduceIte, ite_true, Nat.reduceAdd, Nat.reduceBEq, Bool.or_true, Bool.true_or, Bool.or_false, Bool.false_or, if_true, if_false, Bool.false_eq_true]
                                        refine vwp_region hT ?_
                                        simp [-List.reduceReplicate, PT.obs, lenAct]
                                        repeat refine ⟨by first | assumption | omega | (rw [spl_length (by simp; omega)]; simp; done) | (intros; omega), ?_⟩
                                        refine hK49 _ ?_
                                        try clear hK49 K49
                                        refine vwp_ret ?_
                                        try simp only [thenQ, inBlk]
                                        refine hR _ _ ?_
                                        refine ret_only [6] [] [] (by simp) (by simp) rfl (by simp) (r := .bool true) (by simp [Try.f8]) rfl
                                    · try (exfalso; simp at h14; done)
                                      all_goals
                                        try simp at h14
                                        refine vwp_skip ?_
                                        try simp only [thenQ, inBlk]
                                        refine hK39 _ ?_
                                        refine ⟨⟨[(0, .int .i64 a), (7, .ptr 0 4 0), (9, .mp 3), (10, .mp 4), (11, .mp 5), (12, .int .i64 n2), (41, .fs l.length (rowsV l)), (42, .int .i64 (l.length : Int)), (43, .int .i64 ((i : Nat) : Int)), (144, .ptr 6 0 0)], p2.obs ++ [.map ((p2.us).map U.wEnt) wb2 wc2, .map ((I2).map KV.ent) ib2 ic2, .map ((p2.ss).map S1.oEnt) ob2 oc2] ++ [.iter (.mp 4) ic2 (seen ++ [n]) ic2]⟩, ?_, ib2.length - (is ++ [iz]).length, by simp; omega, seen ++ [n], is ++ [iz], hseen.step hiz hns, rfl, rfl⟩
                                        refine Gh.to [0, 7, 9, 10, 11, 12, 41, 42, 43, 144] [0, 1, 2, 3, 4, 5, 6] _ (_) ?_ ?_ rfl ?_ ?_
                                        · simp
                                        · simp [PT.obs]
                                        · simp [PT.obs]
                                        · simp [PT.obs]
                              · obtain ⟨la, lb, hl1, _, hl2, _⟩ := fIdx_some hqk
                                have hw : sk.who = e.v := hte sk (by rw [hl1]; simp) (beq_iff_eq.1 hl2).symm
                                refine vwp_live [0, 7, 9, 10, 11, 12, 20, 21, 41, 42, 43, 144] ?_
                                try simp only [argSlots, pruneS, inN, eq_self, reduceIte, ite_true, Nat.reduceAdd, Nat.reduceBEq, Bool.or_true, Bool.true_or, Bool.or_false, Bool.false_or, if_true, if_false, Bool.false_eq_true]
                                refine vwp_region hT ?_
                                simp [-List.reduceReplicate, PT.obs, lenAct, vfindK_S1_oEnt, hqk]
                                repeat refine ⟨by first | assumption | omega | (rw [spl_length (by simp; omega)]; simp; done) | (intros; omega), ?_⟩
                                refine hK43 _ ?_
                                try clear hK43 K43
                                refine vwp_seq_k fun K50 hK50 => ?_
                                by_cases hns2 : n2 < sk.over
                                · have hwho : p2.who e.k n2 = (e.v, 0) := by simp [PT.who, PT.find, hqk, hns2, hw]
                                  refine vwp_live [0, 7, 9, 10, 11, 12, 20, 21, 22, 23, 41, 42, 43, 144] ?_
                                  try simp only [argSlots, pruneS, inN, eq_self, reduceIte, ite_true, Nat.reduceAdd, Nat.reduceBEq, Bool.or_true, Bool.true_or, Bool.or_false, Bool.false_or, if_true, if_false, Bool.false_eq_true]
                                  refine vwp_region hT ?_
                                  simp [-List.reduceReplicate, PT.obs, lenAct, hwho]
                                  refine vcall_by0 [0, 1, 2] (who_spec p2 e.k n2) (by simp) (by simp [PT.obs]) (by simp) (by simp [PT.obs]) ?_
                                  rintro r' ob' ⟨rfl, rfl⟩
                                  simp [-List.reduceReplicate, PT.obs, lenAct, hwho]
                                  repeat refine ⟨by first | assumption | omega | (rw [spl_length (by simp; omega)]; simp; done) | (intros; omega), ?_⟩
                                  refine hK50 _ ?_
                                  try clear hK50 K50
                                  refine vwp_seq_k fun K51 hK51 => ?_
                                  refine vwp_live [0, 7, 9, 10, 11, 12, 21, 22, 23, 24, 25, 41, 42, 43, 144] ?_
                                  try simp only [argSlots, pruneS, inN, eq_self, reduceIte, ite_true, Nat.reduceAdd, Nat.reduceBEq, Bool.or_true, Bool.true_or, Bool.or_false, Bool.false_or, if_true, if_false, Bool.false_eq_true]
                                  refine vwp_region hT ?_
                                  simp [-List.reduceReplicate, PT.obs, lenAct, hns2]
                                  repeat refine ⟨by first | assumption | omega | (rw [spl_length (by simp; omega)]; simp; done) | (intros; omega), ?_⟩
                                  refine hK51 _ ?_
                                  try clear hK51 K51
                                  refine vwp_cond (by first | rfl | (simp; rfl)) (fun h15 => ?_) (fun h15 => ?_)
                                  · try (exfalso; simp at h15; done)
                                    all_goals
                                      try simp at h15
                                      refine vwp_seq_k fun K52 hK52 => ?_
                                      refine vwp_live [0, 7, 9, 10, 11, 12, 21, 24, 25, 41, 42, 43, 144] ?_
                                      try simp only [argSlots, pruneS, inN, eq_self, reduceIte, ite_true, Nat.reduceAdd, Nat.reduceBEq, Bool.or_true, Bool.true_or, Bool.or_false, Bool.false_or, if_true, if_false, Bool.false_eq_true]
                                      refine vwp_region hT ?_
                                      simp [-List.reduceReplicate, PT.obs, lenAct]
                                      repeat refine ⟨by first | assumption | omega | (rw [spl_length (by simp; omega)]; simp; done) | (intros; omega), ?_⟩
                                      refine hK52 _ ?_
                                      try clear hK52 K52
                                      refine vwp_cond (by first | rfl | (simp; rfl)) (fun h16 => ?_) (fun h16 => ?_)
                                      · try (exfalso; simp at h16; done)
                                        all_goals
                                          try simp at h16
                                          refine vwp_seq_k fun K53 hK53 => ?_
                                          refine vwp_live [] ?_
                                          try simp only [argSlots, pruneS, inN, eq_self, reduceIte, ite_true, Nat.reduceAdd, Nat.reduceBEq, Bool.or_true, Bool.true_or, Bool.or_false, Bool.false_or, if_true, if_false, Bool.false_eq_true]
                                          refine vwp_region hT ?_
                                          simp [-List.reduceReplicate, PT.obs, lenAct]
                                          repeat refine ⟨by first | assumption | omega | (rw [spl_length (by simp; omega)]; simp; done) | (intros; omega), ?_⟩
                                          refine hK53 _ ?_
                                          try clear hK53 K53
                                          refine vwp_ret ?_
                                          try simp only [thenQ, inBlk]
                                          refine hR _ _ ?_
                                          refine ret_only [6] [] [] (by simp) (by simp) rfl (by simp) (r := .bool true) (by simp [Try.f8]) rfl
                                      · try (exfalso; simp at h16; done)
                                        all_goals
                                          try simp at h16
                                          refine vwp_skip ?_
                                          try simp only [thenQ, inBlk]
                                          refine hK39 _ ?_
                                          refine ⟨⟨[(0, .int .i64 a), (7, .ptr 0 4 0), (9, .mp 3), (10, .mp 4), (11, .mp 5), (12, .int .i64 n2), (41, .fs l.length (rowsV l)), (42, .int .i64 (l.length : Int)), (43, .int .i64 ((i : Nat) : Int)), (144, .ptr 6 0 0)], p2.obs ++ [.map ((p2.us).map U.wEnt) wb2 wc2, .map ((I2).map KV.ent) ib2 ic2, .map ((p2.ss).map S1.oEnt) ob2 oc2] ++ [.iter (.mp 4) ic2 (seen ++ [n]) ic2]⟩, ?_, ib2.length - (is ++ [iz]).length, by simp; omega, seen ++ [n], is ++ [iz], hseen.step hiz hns, rfl, rfl⟩
                                          refine Gh.to [0, 7, 9, 10, 11, 12, 41, 42, 43, 144] [0, 1, 2, 3, 4, 5, 6] _ (_) ?_ ?_ rfl ?_ ?_
                                          · simp
                                          · simp [PT.obs]
                                          · simp [PT.obs]
                                          · simp [PT.obs]
                                  · try (exfalso; simp at h15; done)
                                    all_goals
                                      try simp at h15
                                      refine vwp_seq_k fun K54 hK54 => ?_
                                      refine vwp_live [0, 7, 9, 10, 11, 12, 24, 25, 41, 42, 43, 144] ?_
                                      try simp only [argSlots, pruneS, inN, eq_self, reduceIte, ite_true, Nat.reduceAdd, Nat.reduceBEq, Bool.or_true, Bool.true_or, Bool.or_false, Bool.false_or, if_true, if_false, Bool.false_eq_true]
                                      refine vwp_region hT ?_
                                      simp [-List.reduceReplicate, PT.obs, lenAct]
                                      repeat refine ⟨by first | assumption | omega | (rw [spl_length (by simp; omega)]; simp; done) | (intros; omega), ?_⟩
                                      refine hK54 _ ?_
                                      try clear hK54 K54
                                      refine vwp_cond (by first | rfl | (simp; rfl)) (fun h17 => ?_) (fun h17 => ?_)
                                      · try (exfalso; simp at h17; done)
                                        all_goals
                                          try simp at h17
                                          refine vwp_seq_k fun K55 hK55 => ?_
                                          refine vwp_live [] ?_
                                          try simp only [argSlots, pruneS, inN, eq_self, reduceIte, ite_true, Nat.reduceAdd, Nat.reduceBEq, Bool.or_true, Bool.true_or, Bool.or_false, Bool.false_or, if_true, if_false, Bool.false_eq_true]
                                          refine vwp_region hT ?_
                                          simp [-List.reduceReplicate, PT.obs, lenAct]
                                          repeat refine ⟨by first | assumption | omega | (rw [spl_length (by simp; omega)]; simp; done) | (intros; omega), ?_⟩
                                          refine hK55 _ ?_
                                          try clear hK55 K55
                                          refine vwp_ret ?_
                                          try simp only [thenQ, inBlk]
                                          refine hR _ _ ?_
                                          refine ret_only [6] [] [] (by simp) (by simp) rfl (by simp) (r := .bool true) (by simp [Try.f8]) rfl
                                      · try (exfalso; simp at h17; done)
                                        all_goals
                                          try simp at h17
                                          refine vwp_skip ?_
                                          try simp only [thenQ, inBlk]
                                          refine hK39 _ ?_
                                          refine ⟨⟨[(0, .int .i64 a), (7, .ptr 0 4 0), (9, .mp 3), (10, .mp 4), (11, .mp 5), (12, .int .i64 n2), (41, .fs l.length (rowsV l)), (42, .int .i64 (l.length : Int)), (43, .int .i64 ((i : Nat) : Int)), (144, .ptr 6 0 0)], p2.obs ++ [.map ((p2.us).map U.wEnt) wb2 wc2, .map ((I2).map KV.ent) ib2 ic2, .map ((p2.ss).map S1.oEnt) ob2 oc2] ++ [.iter (.mp 4) ic2 (seen ++ [n]) ic2]⟩, ?_, ib2.length - (is ++ [iz]).length, by simp; omega, seen ++ [n], is ++ [iz], hseen.step hiz hns, rfl, rfl⟩
                                          refine Gh.to [0, 7, 9, 10, 11, 12, 41, 42, 43, 144] [0, 1, 2, 3, 4, 5, 6] _ (_) ?_ ?_ rfl ?_ ?_
                                          · simp
                                          · simp [PT.obs]
                                          · simp [PT.obs]
                                          · simp [PT.obs]
                                · have hwho : p2.who e.k n2 = (0, 11) := by simp [PT.who, PT.find, hqk, hns2]
                                  refine vwp_live [0, 7, 9, 10, 11, 12, 20, 21, 22, 23, 41, 42, 43, 144] ?_
                                  try simp only [argSlots, pruneS, inN, eq_self, reduceIte, ite_true, Nat.reduceAdd, Nat.reduceBEq, Bool.or_true, Bool.true_or, Bool.or_false, Bool.false_or, if_true, if_false, Bool.false_eq_true]
                                  refine vwp_region hT ?_
                                  simp [-List.reduceReplicate, PT.obs, lenAct, hwho]
                                  refine vcall_by0 [0, 1, 2] (who_spec p2 e.k n2) (by simp) (by simp [PT.obs]) (by simp) (by simp [PT.obs]) ?_
                                  rintro r' ob' ⟨rfl, rfl⟩
                                  simp [-List.reduceReplicate, PT.obs, lenAct, hwho]
                                  repeat refine ⟨by first | assumption | omega | (rw [spl_length (by simp; omega)]; simp; done) | (intros; omega), ?_⟩
                                  refine hK50 _ ?_
                                  try clear hK50 K50
                                  refine vwp_seq_k fun K56 hK56 => ?_
                                  refine vwp_live [0, 7, 9, 10, 11, 12, 21, 22, 23, 24, 25, 41, 42, 43, 144] ?_
                                  try simp only [argSlots, pruneS, inN, eq_self, reduceIte, ite_true, Nat.reduceAdd, Nat.reduceBEq, Bool.or_true, Bool.true_or, Bool.or_false, Bool.false_or, if_true, if_false, Bool.false_eq_true]
                                  refine vwp_region hT ?_
                                  simp [-List.reduceReplicate, PT.obs, lenAct, hns2]
                                  repeat refine ⟨by first | assumption | omega | (rw [spl_length (by simp; omega)]; simp; done) | (intros; omega), ?_⟩
                                  refine hK56 _ ?_
                                  try clear hK56 K56
                                  refine vwp_cond (by first | rfl | (simp; rfl)) (fun h18 => ?_) (fun h18 => ?_)
                                  · try (exfalso; simp at h18; done)
                                    all_goals
                                      try simp at h18
                                      refine vwp_seq_k fun K57 hK57 => ?_
                                      refine vwp_live [0, 7, 9, 10, 11, 12, 21, 24, 25, 41, 42, 43, 144] ?_
                                      try simp only [argSlots, pruneS, inN, eq_self, reduceIte, ite_true, Nat.reduceAdd, Nat.reduceBEq, Bool.or_true, Bool.true_or, Bool.or_false, Bool.false_or, if_true, if_false, Bool.false_eq_true]
                                      refine vwp_region hT ?_
                                      simp [-List.reduceReplicate, PT.obs, lenAct]
                                      repeat refine ⟨by first | assumption | omega | (rw [spl_length (by simp; omega)]; simp; done) | (intros; omega), ?_⟩
                                      refine hK57 _ ?_
                                      try clear hK57 K57
                                      refine vwp_cond (by first | rfl | (simp; rfl)) (fun h19 => ?_) (fun h19 => ?_)
                                      · try (exfalso; simp at h19; done)
                                        all_goals
                                          try simp at h19
                                          refine vwp_seq_k fun K58 hK58 => ?_
                                          refine vwp_live [] ?_
                                          try simp only [argSlots, pruneS, inN, eq_self, reduceIte, ite_true, Nat.reduceAdd, Nat.reduceBEq, Bool.or_true, Bool.true_or, Bool.or_false, Bool.false_or, if_true, if_false, Bool.false_eq_true]
                                          refine vwp_region hT ?_
                                          simp [-List.reduceReplicate, PT.obs, lenAct]
                                          repeat refine ⟨by first | assumption | omega | (rw [spl_length (by simp; omega)]; simp; done) | (intros; omega), ?_⟩
                                          refine hK58 _ ?_
                                          try clear hK58 K58
                                          refine vwp_ret ?_
                                          try simp only [thenQ, inBlk]
                                          refine hR _ _ ?_
                                          refine ret_only [6] [] [] (by simp) (by simp) rfl (by simp) (r := .bool true) (by simp [Try.f8]) rfl
                                      · try (exfalso; simp at h19; done)
                                        all_goals
                                          try simp at h19
                                          refine vwp_skip ?_
                                          try simp only [thenQ, inBlk]
                                          refine hK39 _ ?_
                                          refine ⟨⟨[(0, .int .i64 a), (7, .ptr 0 4 0), (9, .mp 3), (10, .mp 4), (11, .mp 5), (12, .int .i64 n2), (41, .fs l.length (rowsV l)), (42, .int .i64 (l.length : Int)), (43, .int .i64 ((i : Nat) : Int)), (144, .ptr 6 0 0)], p2.obs ++ [.map ((p2.us).map U.wEnt) wb2 wc2, .map ((I2).map KV.ent) ib2 ic2, .map ((p2.ss).map S1.oEnt) ob2 oc2] ++ [.iter (.mp 4) ic2 (seen ++ [n]) ic2]⟩, ?_, ib2.length - (is ++ [iz]).length, by simp; omega, seen ++ [n], is ++ [iz], hseen.step hiz hns, rfl, rfl⟩
                                          refine Gh.to [0, 7, 9, 10, 11, 12, 41, 42, 43, 144] [0, 1, 2, 3, 4, 5, 6] _ (_) ?_ ?_ rfl ?_ ?_
                                          · simp
                                          · simp [PT.obs]
                                          · simp [PT.obs]
                                          · simp [PT.obs]
                                  · try (exfalso; simp at h18; done)
                                    all_goals
                                      try simp at h18
                                      refine vwp_seq_k fun K59 hK59 => ?_
                                      refine vwp_live [0, 7, 9, 10, 11, 12, 24, 25, 41, 42, 43, 144] ?_
                                      try simp only [argSlots, pruneS, inN, eq_self, reduceIte, ite_true, Nat.reduceAdd, Nat.reduceBEq, Bool.or_true, Bool.true_or, Bool.or_false, Bool.false_or, if_true, if_false, Bool.false_eq_true]
                                      refine vwp_region hT ?_
                                      simp [-List.reduceReplicate, PT.obs, lenAct]
                                      repeat refine ⟨by first | assumption | omega | (rw [spl_length (by simp; omega)]; simp; done) | (intros; omega), ?_⟩
                                      refine hK59 _ ?_
                                      try clear hK59 K59
                                      refine vwp_cond (by first | rfl | (simp; rfl)) (fun h20 => ?_) (fun h20 => ?_)
                                      · try (exfalso; simp at h20; done)
                                        all_goals
                                          try simp at h20
                                          refine vwp_seq_k fun K60 hK60 => ?_
                                          refine vwp_live [] ?_
                                          try simp only [argSlots, pruneS, inN, eq_self, reduceIte, ite_true, Nat.reduceAdd, Nat.reduceBEq, Bool.or_true, Bool.true_or, Bool.or_false, Bool.false_or, if_true, if_false, Bool.false_eq_true]
                                          refine vwp_region hT ?_
                                          simp [-List.reduceReplicate, PT.obs, lenAct]
                                          repeat refine ⟨by first | assumption | omega | (rw [spl_length (by simp; omega)]; simp; done) | (intros; omega), ?_⟩
                                          refine hK60 _ ?_
                                          try clear hK60 K60
                                          refine vwp_ret ?_
                                          try simp only [thenQ, inBlk]
                                          refine hR _ _ ?_
                                          refine ret_only [6] [] [] (by simp) (by simp) rfl (by simp) (r := .bool true) (by simp [Try.f8]) rfl
                                      · try (exfalso; simp at h20; done)
                                        all_goals
                                          try simp at h20
                                          refine vwp_skip ?_
                                          try simp only [thenQ, inBlk]
                                          refine hK39 _ ?_
                                          refine ⟨⟨[(0, .int .i64 a), (7, .ptr 0 4 0), (9, .mp 3), (10, .mp 4), (11, .mp 5), (12, .int .i64 n2), (41, .fs l.length (rowsV l)), (42, .int .i64 (l.length : Int)), (43, .int .i64 ((i : Nat) : Int)), (144, .ptr 6 0 0)], p2.obs ++ [.map ((p2.us).map U.wEnt) wb2 wc2, .map ((I2).map KV.ent) ib2 ic2, .map ((p2.ss).map S1.oEnt) ob2 oc2] ++ [.iter (.mp 4) ic2 (seen ++ [n]) ic2]⟩, ?_, ib2.length - (is ++ [iz]).length, by simp; omega, seen ++ [n], is ++ [iz], hseen.step hiz hns, rfl, rfl⟩
                                          refine Gh.to [0, 7, 9, 10, 11, 12, 41, 42, 43, 144] [0, 1, 2, 3, 4, 5, 6] _ (_) ?_ ?_ rfl ?_ ?_
                                          · simp
                                          · simp [PT.obs]
                                          · simp [PT.obs]
                                          · simp [PT.obs]
                          · try (exfalso; simp at h11; done)
                            all_goals
                              try simp at h11
                              refine vwp_exit ?_
                              simp only [inBlk, thenQ, if_true]
                              refine hK21 _ ?_
                              try clear hK21 K21
                              refine vwp_live [0, 7, 9, 10, 11, 12, 41, 42, 43] ?_
                              try simp only [argSlots, pruneS, inN, eq_self, reduceIte, ite_true, Nat.reduceAdd, Nat.reduceBEq, Bool.or_true, Bool.true_or, Bool.or_false, Bool.false_or, if_true, if_false, Bool.false_eq_true]
                              refine vwp_region hT ?_
                              simp [-List.reduceReplicate, PT.obs, lenAct]
                              repeat refine ⟨by first | assumption | omega | (rw [spl_length (by simp; omega)]; simp; done) | (intros; omega), ?_⟩
                              refine hK18 _ ?_
                              refine ⟨⟨[(0, .int .i64 a), (7, .ptr 0 4 0), (9, .mp 3), (10, .mp 4), (11, .mp 5), (12, .int .i64 n2), (41, .fs l.length (rowsV l)), (42, .int .i64 (l.length : Int)), (43, .int .i64 ((i + 1 : Nat) : Int))], p2.obs ++ [.map ((p2.us).map U.wEnt) wb2 wc2, .map ((I2).map KV.ent) ib2 ic2, .map ((p2.ss).map S1.oEnt) ob2 oc2]⟩, ?_, l.length - (i + 1), by omega, i + 1, p2, n2, I2, _, _, _, _, _, _, hfit2, hlif2, hnd2, hIn2, htold2, by omega, by omega, by omega, rfl, rfl⟩
                              refine Gh.to [0, 7, 9, 10, 11, 12, 41, 42, 43] [0, 1, 2, 3, 4, 5] _ (_) ?_ ?_ rfl ?_ ?_
                              · simp
                              · simp [PT.obs]
                              · simp [PT.obs]
                              · simp [PT.obs]; exact w64 (by omega) (by omega)
                        · repeat refine ⟨by first | assumption | omega | (rw [spl_length (by simp; omega)]; simp; done) | (intros; omega), ?_⟩
                          refine hK40 _ ?_
                          try clear hK40 K40
                          refine vwp_seq_k fun K61 hK61 => ?_
                          refine vwp_cond (by first | rfl | (simp; rfl)) (fun h21 => ?_) (fun h21 => ?_)
                          · try (exfalso; simp at h21; done)
                            all_goals
                              try simp at h21
                              refine vwp_skip ?_
                              try simp only [thenQ, inBlk]
                              refine hK61 _ ?_
                              try clear hK61 K61
                              refine vwp_block ?_
                              refine vwp_seq_k fun K62 hK62 => ?_
                              refine vwp_live [0, 7, 9, 10, 11, 12, 41, 42, 43, 144] ?_
                              try simp only [argSlots, pruneS, inN, eq_self, reduceIte, ite_true, Nat.reduceAdd, Nat.reduceBEq, Bool.or_true, Bool.true_or, Bool.or_false, Bool.false_or, if_true, if_false, Bool.false_eq_true]
                              refine vwp_region hT ?_
                              simp [-List.reduceReplicate, PT.obs, lenAct, hfb]
                              repeat refine ⟨by first | assumption | omega | (rw [spl_length (by simp; omega)]; simp; done) | (intros; omega), ?_⟩
                              refine hK62 _ ?_
                              try clear hK62 K62
                              refine vwp_seq_k fun K63 hK63 => ?_
                              rcases hqk : fIdx (fun s => e.k == s.tok) p2.ss 0 with _ | ⟨jk, sk⟩
                              · have hwho : p2.who e.k n2 = (0, 11) := by simp [PT.who, PT.find, hqk]
                                refine vwp_live [0, 7, 9, 10, 11, 12, 20, 21, 41, 42, 43, 144] ?_
                                try simp only [argSlots, pruneS, inN, eq_self, reduceIte, ite_true, Nat.reduceAdd, Nat.reduceBEq, Bool.or_true, Bool.true_or, Bool.or_false, Bool.false_or, if_true, if_false, Bool.false_eq_true]
                                refine vwp_region hT ?_
                                simp [-List.reduceReplicate, PT.obs, lenAct, vfindK_S1_oEnt, hqk]
                                repeat refine ⟨by first | assumption | omega | (rw [spl_length (by simp; omega)]; simp; done) | (intros; omega), ?_⟩
                                refine hK63 _ ?_
                                try clear hK63 K63
                                refine vwp_seq_k fun K64 hK64 => ?_
                                refine vwp_live [0, 7, 9, 10, 11, 12, 20, 21, 22, 23, 41, 42, 43, 144] ?_
                                try simp only [argSlots, pruneS, inN, eq_self, reduceIte, ite_true, Nat.reduceAdd, Nat.reduceBEq, Bool.or_true, Bool.true_or, Bool.or_false, Bool.false_or, if_true, if_false, Bool.false_eq_true]
                                refine vwp_region hT ?_
                                simp [-List.reduceReplicate, PT.obs, lenAct, hwho]
                                refine vcall_by0 [0, 1, 2] (who_spec p2 e.k n2) (by simp) (by simp [PT.obs]) (by simp) (by simp [PT.obs]) ?_
                                rintro r' ob' ⟨rfl, rfl⟩
                                simp [-List.reduceReplicate, PT.obs, lenAct, hwho]
                                repeat refine ⟨by first | assumption | omega | (rw [spl_length (by simp; omega)]; simp; done) | (intros; omega), ?_⟩
                                refine hK64 _ ?_
                                try clear hK64 K64
                                refine vwp_seq_k fun K65 hK65 => ?_
                                refine vwp_live [0, 7, 9, 10, 11, 12, 21, 22, 23, 24, 25, 41, 42, 43, 144] ?_
                                try simp only [argSlots, pruneS, inN, eq_self, reduceIte, ite_true, Nat.reduceAdd, Nat.reduceBEq, Bool.or_true, Bool.true_or, Bool.or_false, Bool.false_or, if_true, if_false, Bool.false_eq_true]
                                refine vwp_region hT ?_
                                simp [-List.reduceReplicate, PT.obs, lenAct]
                                repeat refine ⟨by first | assumption | omega | (rw [spl_length (by simp; omega)]; simp; done) | (intros; omega), ?_⟩
                                refine hK65 _ ?_
                                try clear hK65 K65
                                refine vwp_cond (by first | rfl | (simp; rfl)) (fun h22 => ?_) (fun h22 => ?_)
                                · try (exfalso; simp at h22; done)
                                  all_goals
                                    try simp at h22
                                    refine vwp_seq_k fun K66 hK66 => ?_
                                    refine vwp_live [0, 7, 9, 10, 11, 12, 21, 24, 25, 41, 42, 43, 144] ?_
                                    try simp only [argSlots, pruneS, inN, eq_self, reduceIte, ite_true, Nat.reduceAdd, Nat.reduceBEq, Bool.or_true, Bool.true_or, Bool.or_false, Bool.false_or, if_true, if_false, Bool.false_eq_true]
                                    refine vwp_region hT ?_
                                    simp [-List.reduceReplicate, PT.obs, lenAct]
                                    repeat refine ⟨by first | assumption | omega | (rw [spl_length (by simp; omega)]; simp; done) | (intros; omega), ?_⟩
                                    refine hK66 _ ?_
                                    try clear hK66 K66
                                    refine vwp_cond (by first | rfl | (simp; rfl)) (fun h23 => ?_) (fun h23 => ?_)
                                    · try (exfalso; simp at h23; done)
                                      all_goals
                                        try simp at h23
                                        refine vwp_seq_k fun K67 hK67 => ?_
                                        refine vwp_live [] ?_
                                        try simp only [argSlots, pruneS, inN, eq_self, reduceIte, ite_true, Nat.reduceAdd, Nat.reduceBEq, Bool.or_true, Bool.true_or, Bool.or_false, Bool.false_or, if_true, if_false, Bool.false_eq_true]
                                        refine vwp_region hT ?_
                                        simp [-List.reduceReplicate, PT.obs, lenAct]
                                        repeat refine ⟨by first | assumption | omega | (rw [spl_length (by simp; omega)]; simp; done) | (intros; omega), ?_⟩
                                        refine hK67 _ ?_
                                        try clear hK67 K67
                                        refine vwp_ret ?_
                                        try simp only [thenQ, inBlk]
                                        refine hR _ _ ?_
                                        refine ret_only [6] [] [] (by simp) (by simp) rfl (by simp) (r := .bool true) (by simp [Try.f8]) rfl
                                    · try (exfalso; simp at h23; done)
                                      all_goals
                                        try simp at h23
                                        refine vwp_skip ?_
                                        try simp only [thenQ, inBlk]
                                        refine hK39 _ ?_
                                        refine ⟨⟨[(0, .int .i64 a), (7, .ptr 0 4 0), (9, .mp 3), (10, .mp 4), (11, .mp 5), (12, .int .i64 n2), (41, .fs l.length (rowsV l)), (42, .int .i64 (l.length : Int)), (43, .int .i64 ((i : Nat) : Int)), (144, .ptr 6 0 0)], p2.obs ++ [.map ((p2.us).map U.wEnt) wb2 wc2, .map ((I2).map KV.ent) ib2 ic2, .map ((p2.ss).map S1.oEnt) ob2 oc2] ++ [.iter (.mp 4) ic2 (seen ++ [n]) ic2]⟩, ?_, ib2.length - (is ++ [iz]).length, by simp; omega, seen ++ [n], is ++ [iz], hseen.step hiz hns, rfl, rfl⟩
                                        refine Gh.to [0, 7, 9, 10, 11, 12, 41, 42, 43, 144] [0, 1, 2, 3, 4, 5, 6] _ (_) ?_ ?_ rfl ?_ ?_
                                        · simp
                                        · simp [PT.obs]
                                        · simp [PT.obs]
                                        · simp [PT.obs]
                                · try (exfalso; simp at h22; done)
                                  all_goals
                                    try simp at h22
                                    refine vwp_seq_k fun K68 hK68 => ?_
                                    refine vwp_live [0, 7, 9, 10, 11, 12, 24, 25, 41, 42, 43, 144] ?_
                                    try simp only [argSlots, pruneS, inN, eq_self, reduceIte, ite_true, Nat.reduceAdd, Nat.reduceBEq, Bool.or_true, Bool.true_or, Bool.or_false, Bool.false_or, if_true, if_false, Bool.false_eq_true]
                                    refine vwp_region hT ?_
                                    simp [-List.reduceReplicate, PT.obs, lenAct]
                                    repeat refine ⟨by first | assumption | omega | (rw [spl_length (by simp; omega)]; simp; done) | (intros; omega), ?_⟩
                                    refine hK68 _ ?_
                                    try clear hK68 K68
                                    refine vwp_cond (by first | rfl | (simp; rfl)) (fun h24 => ?_) (fun h24 => ?_)
                                    · try (exfalso; simp at h24; done)
                                      all_goals
                                        try simp at h24
                                        refine vwp_seq_k fun K69 hK69 => ?_
                                        refine vwp_live [] ?_
                                        try simp only [argSlots, pruneS, inN, eq_self, reduceIte, ite_true, Nat.reduceAdd, Nat.reduceBEq, Bool.or_true, Bool.true_or, Bool.or_false, Bool.false_or, if_true, if_false, Bool.false_eq_true]
                                        refine vwp_region hT ?_
                                        simp [-List.reduceReplicate, PT.obs, lenAct]
                                        repeat refine ⟨by first | assumption | omega | (rw [spl_length (by simp; omega)]; simp; done) | (intros; omega), ?_⟩
                                        refine hK69 _ ?_
                                        try clear hK69 K69
                                        refine vwp_ret ?_
                                        try simp only [thenQ, inBlk]
                                        refine hR _ _ ?_
                                        refine ret_only [6] [] [] (by simp) (by simp) rfl (by simp) (r := .bool true) (by simp [Try.f8]) rfl
                                    · try (exfalso; simp at h24; done)
                                      all_goals
                                        try simp at h24
                                        refine vwp_skip ?_
                                        try simp only [thenQ, inBlk]
                                        refine hK39 _ ?_
                                        refine ⟨⟨[(0, .int .i64 a), (7, .ptr 0 4 0), (9, .mp 3), (10, .mp 4), (11, .mp 5), (12, .int .i64 n2), (41, .fs l.length (rowsV l)), (42, .int .i64 (l.length : Int)), (43, .int .i64 ((i : Nat) : Int)), (144, .ptr 6 0 0)], p2.obs ++ [.map ((p2.us).map U.wEnt) wb2 wc2, .map ((I2).map KV.ent) ib2 ic2, .map ((p2.ss).map S1.oEnt) ob2 oc2] ++ [.iter (.mp 4) ic2 (seen ++ [n]) ic2]⟩, ?_, ib2.length - (is ++ [iz]).length, by simp; omega, seen ++ [n], is ++ [iz], hseen.step hiz hns, rfl, rfl⟩
                                        refine Gh.to [0, 7, 9, 10, 11, 12, 41, 42, 43, 144] [0, 1, 2, 3, 4, 5, 6] _ (_) ?_ ?_ rfl ?_ ?_
                                        · simp
                                        · simp [PT.obs]
                                        · simp [PT.obs]
                                        · simp [PT.obs]
                              · obtain ⟨la, lb, hl1, _, hl2, _⟩ := fIdx_some hqk
                                have hw : sk.who = e.v := hte sk (by rw [hl1]; simp) (beq_iff_eq.1 hl2).symm
                                refine vwp_live [0, 7, 9, 10, 11, 12, 20, 21, 41, 42, 43, 144] ?_
                                try simp only [argSlots, pruneS, inN, eq_self, reduceIte, ite_true, Nat.reduceAdd, Nat.reduceBEq, Bool.or_true, Bool.true_or, Bool.or_false, Bool.false_or, if_true, if_false, Bool.false_eq_true]
                                refine vwp_region hT ?_
                                simp [-List.reduceReplicate, PT.obs, lenAct, vfindK_S1_oEnt, hqk]
                                repeat refine ⟨by first | assumption | omega | (rw [spl_length (by simp; omega)]; simp; done) | (intros; omega), ?_⟩
                                refine hK63 _ ?_
                                try clear hK63 K63
                                refine vwp_seq_k fun K70 hK70 => ?_
                                by_cases hns2 : n2 < sk.over
                                · have hwho : p2.who e.k n2 = (e.v, 0) := by simp [PT.who, PT.find, hqk, hns2, hw]
                                  refine vwp_live [0, 7, 9, 10, 11, 12, 20, 21, 22, 23, 41, 42, 43, 144] ?_
                                  try simp only [argSlots, pruneS, inN, eq_self, reduceIte, ite_true, Nat.reduceAdd, Nat.reduceBEq, Bool.or_true, Bool.true_or, Bool.or_false, Bool.false_or, if_true, if_false, Bool.false_eq_true]
                                  refine vwp_region hT ?_
                                  simp [-List.reduceReplicate, PT.obs, lenAct, hwho]
                                  refine vcall_by0 [0, 1, 2] (who_spec p2 e.k n2) (by simp) (by simp [PT.obs]) (by simp) (by simp [PT.obs]) ?_
                                  rintro r' ob' ⟨rfl, rfl⟩
                                  simp [-List.reduceReplicate, PT.obs, lenAct, hwho]
                                  repeat refine ⟨by first | assumption | omega | (rw [spl_length (by simp; omega)]; simp; done) | (intros; omega), ?_⟩
                                  refine hK70 _ ?_
                                  try clear hK70 K70
                                  refine vwp_seq_k fun K71 hK71 => ?_
                                  refine vwp_live [0, 7, 9, 10, 11, 12, 21, 22, 23, 24, 25, 41, 42, 43, 144] ?_
                                  try simp only [argSlots, pruneS, inN, eq_self, reduceIte, ite_true, Nat.reduceAdd, Nat.reduceBEq, Bool.or_true, Bool.true_or, Bool.or_false, Bool.false_or, if_true, if_false, Bool.false_eq_true]
                                  refine vwp_region hT ?_
                                  simp [-List.reduceReplicate, PT.obs, lenAct, hns2]
                                  repeat refine ⟨by first | assumption | omega | (rw [spl_length (by simp; omega)]; simp; done) | (intros; omega), ?_⟩
                                  refine hK71 _ ?_
                                  try clear hK71 K71
                                  refine vwp_cond (by first | rfl | (simp; rfl)) (fun h25 => ?_) (fun h25 => ?_)
                                  · try (exfalso; simp at h25; done)
                                    all_goals
                                      try simp at h25
                                      refine vwp_seq_k fun K72 hK72 => ?_
                                      refine vwp_live [0, 7, 9, 10, 11, 12, 21, 24, 25, 41, 42, 43, 144] ?_
                                      try simp only [argSlots, pruneS, inN, eq_self, reduceIte, ite_true, Nat.reduceAdd, Nat.reduceBEq, Bool.or_true, Bool.true_or, Bool.or_false, Bool.false_or, if_true, if_false, Bool.false_eq_true]
                                      refine vwp_region hT ?_
                                      simp [-List.reduceReplicate, PT.obs, lenAct]
                                      repeat refine ⟨by first | assumption | omega | (rw [spl_length (by simp; omega)]; simp; done) | (intros; omega), ?_⟩
                                      refine hK72 _ ?_
                                      try clear hK72 K72
                                      refine vwp_cond (by first | rfl | (simp; rfl)) (fun h26 => ?_) (fun h26 => ?_)
                                      · try (exfalso; simp at h26; done)
                                        all_goals
                                          try simp at h26
                                          refine vwp_seq_k fun K73 hK73 => ?_
                                          refine vwp_live [] ?_
                                          try simp only [argSlots, pruneS, inN, eq_self, reduceIte, ite_true, Nat.reduceAdd, Nat.reduceBEq, Bool.or_true, Bool.true_or, Bool.or_false, Bool.false_or, if_true, if_false, Bool.false_eq_true]
                                          refine vwp_region hT ?_
                                          simp [-List.reduceReplicate, PT.obs, lenAct]
                                          repeat refine ⟨by first | assumption | omega | (rw [spl_length (by simp; omega)]; simp; done) | (intros; omega), ?_⟩
                                          refine hK73 _ ?_
                                          try clear hK73 K73
                                          refine vwp_ret ?_
                                          try simp only [thenQ, inBlk]
                                          refine hR _ _ ?_
                                          refine ret_only [6] [] [] (by simp) (by simp) rfl (by simp) (r := .bool true) (by simp [Try.f8]) rfl
                                      · try (exfalso; simp at h26; done)
                                        all_goals
                                          try simp at h26
                                          refine vwp_skip ?_
                                          try simp only [thenQ, inBlk]
                                          refine hK39 _ ?_
                                          refine ⟨⟨[(0, .int .i64 a), (7, .ptr 0 4 0), (9, .mp 3), (10, .mp 4), (11, .mp 5), (12, .int .i64 n2), (41, .fs l.length (rowsV l)), (42, .int .i64 (l.length : Int)), (43, .int .i64 ((i : Nat) : Int)), (144, .ptr 6 0 0)], p2.obs ++ [.map ((p2.us).map U.wEnt) wb2 wc2, .map ((I2).map KV.ent) ib2 ic2, .map ((p2.ss).map S1.oEnt) ob2 oc2] ++ [.iter (.mp 4) ic2 (seen ++ [n]) ic2]⟩, ?_, ib2.length - (is ++ [iz]).length, by simp; omega, seen ++ [n], is ++ [iz], hseen.step hiz hns, rfl, rfl⟩
                                          refine Gh.to [0, 7, 9, 10, 11, 12, 41, 42, 43, 144] [0, 1, 2, 3, 4, 5, 6] _ (_) ?_ ?_ rfl ?_ ?_
                                          · simp
                                          · simp [PT.obs]
                                          · simp [PT.obs]
                                          · simp [PT.obs]
                                  · try (exfalso; simp at h25; done)
                                    all_goals
                                      try simp at h25
                                      refine vwp_seq_k fun K74 hK74 => ?_
                                      refine vwp_live [0, 7, 9, 10, 11, 12, 24, 25, 41, 42, 43, 144] ?_
                                      try simp only [argSlots, pruneS, inN, eq_self, reduceIte, ite_true, Nat.reduceAdd, Nat.reduceBEq, Bool.or_true, Bool.true_or, Bool.or_false, Bool.false_or, if_true, if_false, Bool.false_eq_true]
                                      refine vwp_region hT ?_
                                      simp [-List.reduceReplicate, PT.obs, lenAct]
                                      repeat refine ⟨by first | assumption | omega | (rw [spl_length (by simp; omega)]; simp; done) | (intros; omega), ?_⟩
                                      refine hK74 _ ?_
                                      try clear hK74 K74
                                      refine vwp_cond (by first | rfl | (simp; rfl)) (fun h27 => ?_) (fun h27 => ?_)
                                      · try (exfalso; simp at h27; done)
                                        all_goals
                                          try simp at h27
                                          refine vwp_seq_k fun K75 hK75 => ?_
                                          refine vwp_live [] ?_
                                          try simp only [argSlots, pruneS, inN, eq_self, reduceIte, ite_true, Nat.reduceAdd, Nat.reduceBEq, Bool.or_true, Bool.true_or, Bool.or_false, Bool.false_or, if_true, if_false, Bool.false_eq_true]
                                          refine vwp_region hT ?_
                                          simp [-List.reduceReplicate, PT.obs, lenAct]
                                          repeat refine ⟨by first | assumption | omega | (rw [spl_length (by simp; omega)]; simp; done) | (intros; omega), ?_⟩
                                          refine hK75 _ ?_
                                          try clear hK75 K75
                                          refine vwp_ret ?_
                                          try simp only [thenQ, inBlk]
                                          refine hR _ _ ?_
                                          refine ret_only [6] [] [] (by simp) (by simp) rfl (by simp) (r := .bool true) (by simp [Try.f8]) rfl
                                      · try (exfalso; simp at h27; done)
                                        all_goals
                                          try simp at h27
                                          refine vwp_skip ?_
                                          try simp only [thenQ, inBlk]
                                          refine hK39 _ ?_
                                          refine ⟨⟨[(0, .int .i64 a), (7, .ptr 0 4 0), (9, .mp 3), (10, .mp 4), (11, .mp 5), (12, .int .i64 n2), (41, .fs l.length (rowsV l)), (42, .int .i64 (l.length : Int)), (43, .int .i64 ((i : Nat) : Int)), (144, .ptr 6 0 0)], p2.obs ++ [.map ((p2.us).map U.wEnt) wb2 wc2, .map ((I2).map KV.ent) ib2 ic2, .map ((p2.ss).map S1.oEnt) ob2 oc2] ++ [.iter (.mp 4) ic2 (seen ++ [n]) ic2]⟩, ?_, ib2.length - (is ++ [iz]).length, by simp; omega, seen ++ [n], is ++ [iz], hseen.step hiz hns, rfl, rfl⟩
                                          refine Gh.to [0, 7, 9, 10, 11, 12, 41, 42, 43, 144] [0, 1, 2, 3, 4, 5, 6] _ (_) ?_ ?_ rfl ?_ ?_
                                          · simp
                                          · simp [PT.obs]
                                          · simp [PT.obs]
                                          · simp [PT.obs]
                                · have hwho : p2.who e.k n2 = (0, 11) := by simp [PT.who, PT.find, hqk, hns2]
                                  refine vwp_live [0, 7, 9, 10, 11, 12, 20, 21, 22, 23, 41, 42, 43, 144] ?_
                                  try simp only [argSlots, pruneS, inN, eq_self, reduceIte, ite_true, Nat.reduceAdd, Nat.reduceBEq, Bool.or_true, Bool.true_or, Bool.or_false, Bool.false_or, if_true, if_false, Bool.false_eq_true]
                                  refine vwp_region hT ?_
                                  simp [-List.reduceReplicate, PT.obs, lenAct, hwho]
                                  refine vcall_by0 [0, 1, 2] (who_spec p2 e.k n2) (by simp) (by simp [PT.obs]) (by simp) (by simp [PT.obs]) ?_
                                  rintro r' ob' ⟨rfl, rfl⟩
                                  simp [-List.reduceReplicate, PT.obs, lenAct, hwho]
                                  repeat refine ⟨by first | assumption | omega | (rw [spl_length (by simp; omega)]; simp; done) | (intros; omega), ?_⟩
                                  refine hK70 _ ?_
                                  try clear hK70 K70
                                  refine vwp_seq_k fun K76 hK76 => ?_
                                  refine vwp_live [0, 7, 9, 10, 11, 12, 21, 22, 23, 24, 25, 41, 42, 43, 144] ?_
                                  try simp only [argSlots, pruneS, inN, eq_self, reduceIte, ite_true, Nat.reduceAdd, Nat.reduceBEq, Bool.or_true, Bool.true_or, Bool.or_false, Bool.false_or, if_true, if_false, Bool.false_eq_true]
                                  refine vwp_region hT ?_
                                  simp [-List.reduceReplicate, PT.obs, lenAct, hns2]
                                  repeat refine ⟨by first | assumption | omega | (rw [spl_length (by simp; omega)]; simp; done) | (intros; omega), ?_⟩
                                  refine hK76 _ ?_
                                  try clear hK76 K76
                                  refine vwp_cond (by first | rfl | (simp; rfl)) (fun h28 => ?_) (fun h28 => ?_)
                                  · try (exfalso; simp at h28; done)
                                    all_goals
                                      try simp at h28
                                      refine vwp_seq_k fun K77 hK77 => ?_
                                      refine vwp_live [0, 7, 9, 10, 11, 12, 21, 24, 25, 41, 42, 43, 144] ?_
                                      try simp only [argSlots, pruneS, inN, eq_self, reduceIte, ite_true, Nat.reduceAdd, Nat.reduceBEq, Bool.or_true, Bool.true_or, Bool.or_false, Bool.false_or, if_true, if_false, Bool.false_eq_true]
                                      refine vwp_region hT ?_
                                      simp [-List.reduceReplicate, PT.obs, lenAct]
                                      repeat refine ⟨by first | assumption | omega | (rw [spl_length (by simp; omega)]; simp; done) | (intros; omega), ?_⟩
                                      refine hK77 _ ?_
                                      try clear hK77 K77
                                      refine vwp_cond (by first | rfl | (simp; rfl)) (fun h29 => ?_) (fun h29 => ?_)
                                      · try (exfalso; simp at h29; done)
                                        all_goals
                                          try simp at h29
                                          refine vwp_seq_k fun K78 hK78 => ?_
                                          refine vwp_live [] ?_
                                          try simp only [argSlots, pruneS, inN, eq_self, reduceIte, ite_true, Nat.reduceAdd, Nat.reduceBEq, Bool.or_true, Bool.true_or, Bool.or_false, Bool.false_or, if_true, if_false, Bool.false_eq_true]
                                          refine vwp_region hT ?_
                                          simp [-List.reduceReplicate, PT.obs, lenAct]
                                          repeat refine ⟨by first | assumption | omega | (rw [spl_length (by simp; omega)]; simp; done) | (intros; omega), ?_⟩
                                          refine hK78 _ ?_
                                          try clear hK78 K78
                                          refine vwp_ret ?_
                                          try simp only [thenQ, inBlk]
                                          refine hR _ _ ?_
                                          refine ret_only [6] [] [] (by simp) (by simp) rfl (by simp) (r := .bool true) (by simp [Try.f8]) rfl
                                      · try (exfalso; simp at h29; done)
                                        all_goals
                                          try simp at h29
                                          refine vwp_skip ?_
                                          try simp only [thenQ, inBlk]
                                          refine hK39 _ ?_
                                          refine ⟨⟨[(0, .int .i64 a), (7, .ptr 0 4 0), (9, .mp 3), (10, .mp 4), (11, .mp 5), (12, .int .i64 n2), (41, .fs l.length (rowsV l)), (42, .int .i64 (l.length : Int)), (43, .int .i64 ((i : Nat) : Int)), (144, .ptr 6 0 0)], p2.obs ++ [.map ((p2.us).map U.wEnt) wb2 wc2, .map ((I2).map KV.ent) ib2 ic2, .map ((p2.ss).map S1.oEnt) ob2 oc2] ++ [.iter (.mp 4) ic2 (seen ++ [n]) ic2]⟩, ?_, ib2.length - (is ++ [iz]).length, by simp; omega, seen ++ [n], is ++ [iz], hseen.step hiz hns, rfl, rfl⟩
                                          refine Gh.to [0, 7, 9, 10, 11, 12, 41, 42, 43, 144] [0, 1, 2, 3, 4, 5, 6] _ (_) ?_ ?_ rfl ?_ ?_
                                          · simp
                                          · simp [PT.obs]
                                          · simp [PT.obs]
                                          · simp [PT.obs]
                                  · try (exfalso; simp at h28; done)
                                    all_goals
                                      try simp at h28
                                      refine vwp_seq_k fun K79 hK79 => ?_
                                      refine vwp_live [0, 7, 9, 10, 11, 12, 24, 25, 41, 42, 43, 144] ?_
                                      try simp only [argSlots, pruneS, inN, eq_self, reduceIte, ite_true, Nat.reduceAdd, Nat.reduceBEq, Bool.or_true, Bool.true_or, Bool.or_false, Bool.false_or, if_true, if_false, Bool.false_eq_true]
                                      refine vwp_region hT ?_
                                      simp [-List.reduceReplicate, PT.obs, lenAct]
                                      repeat refine ⟨by first | assumption | omega | (rw [spl_length (by simp; omega)]; simp; done) | (intros; omega), ?_⟩
                                      refine hK79 _ ?_
                                      try clear hK79 K79
                                      refine vwp_cond (by first | rfl | (simp; rfl)) (fun h30 => ?_) (fun h30 => ?_)
                                      · try (exfalso; simp at h30; done)
                                        all_goals
                                          try simp at h30
                                          refine vwp_seq_k fun K80 hK80 => ?_
                                          refine vwp_live [] ?_
                                          try simp only [argSlots, pruneS, inN, eq_self, reduceIte, ite_true, Nat.reduceAdd, Nat.reduceBEq, Bool.or_true, Bool.true_or, Bool.or_false, Bool.false_or, if_true, if_false, Bool.false_eq_true]
                                          refine vwp_region hT ?_
                                          simp [-List.reduceReplicate, PT.obs, lenAct]
                                          repeat refine ⟨by first | assumption | omega | (rw [spl_length (by simp; omega)]; simp; done) | (intros; omega), ?_⟩
                                          refine hK80 _ ?_
                                          try clear hK80 K80
                                          refine vwp_ret ?_
                                          try simp only [thenQ, inBlk]
                                          refine hR _ _ ?_
                                          refine ret_only [6] [] [] (by simp) (by simp) rfl (by simp) (r := .bool true) (by simp [Try.f8]) rfl
                                      · try (exfalso; simp at h30; done)
                                        all_goals
                                          try simp at h30
                                          refine vwp_skip ?_
                                          try simp only [thenQ, inBlk]
                                          refine hK39 _ ?_
                                          refine ⟨⟨[(0, .int .i64 a), (7, .ptr 0 4 0), (9, .mp 3), (10, .mp 4), (11, .mp 5), (12, .int .i64 n2), (41, .fs l.length (rowsV l)), (42, .int .i64 (l.length : Int)), (43, .int .i64 ((i : Nat) : Int)), (144, .ptr 6 0 0)], p2.obs ++ [.map ((p2.us).map U.wEnt) wb2 wc2, .map ((I2).map KV.ent) ib2 ic2, .map ((p2.ss).map S1.oEnt) ob2 oc2] ++ [.iter (.mp 4) ic2 (seen ++ [n]) ic2]⟩, ?_, ib2.length - (is ++ [iz]).length, by simp; omega, seen ++ [n], is ++ [iz], hseen.step hiz hns, rfl, rfl⟩
                                          refine Gh.to [0, 7, 9, 10, 11, 12, 41, 42, 43, 144] [0, 1, 2, 3, 4, 5, 6] _ (_) ?_ ?_ rfl ?_ ?_
                                          · simp
                                          · simp [PT.obs]
                                          · simp [PT.obs]
                                          · simp [PT.obs]
                          · try (exfalso; simp at h21; done)
                            all_goals
                              try simp at h21
                              refine vwp_exit ?_
                              simp only [inBlk, thenQ, if_true]
                              refine hK21 _ ?_
                              try clear hK21 K21
                              refine vwp_live [0, 7, 9, 10, 11, 12, 41, 42, 43] ?_
                              try simp only [argSlots, pruneS, inN, eq_self, reduceIte, ite_true, Nat.reduceAdd, Nat.reduceBEq, Bool.or_true, Bool.true_or, Bool.or_false, Bool.false_or, if_true, if_false, Bool.false_eq_true]
                              refine vwp_region hT ?_
                              simp [-List.reduceReplicate, PT.obs, lenAct]
                              repeat refine ⟨by first | assumption | omega | (rw [spl_length (by simp; omega)]; simp; done) | (intros; omega), ?_⟩
                              refine hK18 _ ?_
                              refine ⟨⟨[(0, .int .i64 a), (7, .ptr 0 4 0), (9, .mp 3), (10, .mp 4), (11, .mp 5), (12, .int .i64 n2), (41, .fs l.length (rowsV l)), (42, .int .i64 (l.length : Int)), (43, .int .i64 ((i + 1 : Nat) : Int))], p2.obs ++ [.map ((p2.us).map U.wEnt) wb2 wc2, .map ((I2).map KV.ent) ib2 ic2, .map ((p2.ss).map S1.oEnt) ob2 oc2]⟩, ?_, l.length - (i + 1), by omega, i + 1, p2, n2, I2, _, _, _, _, _, _, hfit2, hlif2, hnd2, hIn2, htold2, by omega, by omega, by omega, rfl, rfl⟩
                              refine Gh.to [0, 7, 9, 10, 11, 12, 41, 42, 43] [0, 1, 2, 3, 4, 5] _ (_) ?_ ?_ rfl ?_ ?_
                              · simp
                              · simp [PT.obs]
                              · simp [PT.obs]
                              · simp [PT.obs]; exact w64 (by omega) (by omega)
                · try (exfalso; simp at h4; done)
                  all_goals
                    try simp at h4
                    refine vwp_exit ?_
                    simp only [inBlk, thenQ, if_true]
                    refine hK16 _ ?_
                    try clear hK16 K16
                    refine vwp_seq_k fun K81 hK81 => ?_
                    refine vwp_live [] ?_
                    try simp only [argSlots, pruneS, inN, eq_self, reduceIte, ite_true, Nat.reduceAdd, Nat.reduceBEq, Bool.or_true, Bool.true_or, Bool.or_false, Bool.false_or, if_true, if_false, Bool.false_eq_true]
                    refine vwp_region hT ?_
                    simp [-List.reduceReplicate, PT.obs, lenAct]
                    repeat refine ⟨by first | assumption | omega | (rw [spl_length (by simp; omega)]; simp; done) | (intros; omega), ?_⟩
                    refine hK81 _ ?_
                    try clear hK81 K81
                    refine vwp_ret ?_
                    try simp only [thenQ, inBlk]
                    refine hR _ _ ?_
                    refine ret_only [6] [] [] (by simp) (by simp) rfl (by simp) (r := .bool true) (by simp [Try.f8]) rfl
          · refine vwp_live [0, 1, 2] ?_
            try simp only [argSlots, pruneS, inN, eq_self, reduceIte, ite_true, Nat.reduceAdd, Nat.reduceBEq, Bool.or_true, Bool.true_or, Bool.or_false, Bool.false_or, if_true, if_false, Bool.false_eq_true]
            refine vwp_region hT ?_
            simp [-List.reduceReplicate, PT.obs, lenAct]
            refine vcall_by0 [] (snew_spec a b) (by simp) (by simp [PT.obs]) (by simp) (by simp [PT.obs]) ?_
            rintro r ob' ⟨-, hq⟩
            obtain ⟨rfl, rfl⟩ := hq hn
            simp [-List.reduceReplicate, PT.obs, lenAct]
            repeat refine ⟨by first | assumption | omega | (rw [spl_length (by simp; omega)]; simp; done) | (intros; omega), ?_⟩
            refine hK8 _ ?_
            try clear hK8 K8
            refine vwp_seq_k fun K82 hK82 => ?_
            refine vwp_seq_k fun K83 hK83 => ?_
            refine vwp_live [0, 2, 7] ?_
            try simp only [argSlots, pruneS, inN, eq_self, reduceIte, ite_true, Nat.reduceAdd, Nat.reduceBEq, Bool.or_true, Bool.true_or, Bool.or_false, Bool.false_or, if_true, if_false, Bool.false_eq_true]
            refine vwp_region hT ?_
            simp [-List.reduceReplicate, PT.obs, lenAct]
            repeat refine ⟨by first | assumption | omega | (rw [spl_length (by simp; omega)]; simp; done) | (intros; omega), ?_⟩
            refine hK83 _ ?_
            try clear hK83 K83
            refine vwp_cond (by first | rfl | (simp; rfl)) (fun h31 => ?_) (fun h31 => ?_)
            · try (exfalso; simp at h31; done)
              all_goals
                try simp at h31
                refine vwp_seq_k fun K84 hK84 => ?_
                refine vwp_live [] ?_
                try simp only [argSlots, pruneS, inN, eq_self, reduceIte, ite_true, Nat.reduceAdd, Nat.reduceBEq, Bool.or_true, Bool.true_or, Bool.or_false, Bool.false_or, if_true, if_false, Bool.false_eq_true]
                refine vwp_region hT ?_
                simp [-List.reduceReplicate, PT.obs, lenAct]
                repeat refine ⟨by first | assumption | omega | (rw [spl_length (by simp; omega)]; simp; done) | (intros; omega), ?_⟩
                refine hK84 _ ?_
                try clear hK84 K84
                refine vwp_ret ?_
                try simp only [thenQ, inBlk]
                refine hR _ _ ?_
                refine ret_only [6] [] [] (by simp) (by simp) rfl (by simp) (r := .bool true) (by simp [Try.f8]) rfl
            · try (exfalso; simp at h31; done)
              all_goals
                try simp at h31
                refine vwp_skip ?_
                try simp only [thenQ, inBlk]
                refine hK82 _ ?_
                try clear hK82 K82
                refine vwp_seq_k fun K85 hK85 => ?_
                skip
end Go.Proofs.Ytibhpkolbffdaaa
