/- The closure by which a reader recovers. -/
import Derived.Test.YtgmcflbbdpbkeaaDoorPkI
import Derived.Test.YtgmcflbbdpbkeaaDoorVXc
namespace Go.Proofs.YtgmcflbbdpbkeaaDoor
open Go Go.VX Go.RowKit
set_option linter.unusedVariables false
set_option linter.unusedSimpArgs false
set_option maxHeartbeats 20000000
set_option maxRecDepth 100000

theorem eqnil_t (E : Env) (v : Value) (w : World) (h : VRep E .nili v) : (binOp .eql 20 v .nilIface).run P w = .ok (.bool true) w := by
  obtain rfl : v = .nilIface := h
  simp [go_sem]
theorem eqnil_f (t : TypeId) (u : Value) (E : Env) (v : Value) (w : World) (h : VRep E (.ifc t u) v) : (binOp .eql 20 v .nilIface).run P w = .ok (.bool false) w := by
  obtain rfl : v = .iface t u := h
  simp [go_sem]
theorem clo_idle (x e : V) (obs : List Ob) : VCD P 30 [.ptr 0 1 0, .ptr 1 1 0] (.live [x] :: .live [e] :: obs) .returning (fun u' ob' => u' = .returning ∧ ob' = .live [x] :: .live [e] :: obs) := by
  refine VCD_of ent_30 Tryd.func30 rfl (by simp) rfl (by simp) (by simp) (.inl ⟨rfl, rfl, rfl⟩) ?_
  refine vwd_seq (vwd_seq (vwd_eqnil (X := .nili) hT rfl (by simp) (by simp) (.inl rfl) eqnil_t ?_ rfl))
  refine vwd_cond (t := true) (by rfl) (fun _ => vwd_ret ?_) (fun h => by cases h)
  exact ⟨.inr rfl, rfl, rfl⟩
theorem clo_panic (x y : V) (e : Int) (obs : List Ob) : VCD P 30 [.ptr 0 1 0, .ptr 1 1 0] (.live [x] :: .live [y] :: obs) (.panicking [{ v := stopV e, recovered := false }]) (fun u' ob' => u' = .panicking [{ v := stopV e, recovered := true }] ∧ ob' = .live [.nils] :: .live [.int .i64 e] :: obs) := by
  refine VCD_of ent_30 Tryd.func30 rfl (by simp) rfl (by simp) (by simp) (.inr ⟨_, _, rfl, rfl, rfl⟩) ?_
  refine vwd_seq (vwd_seq (vwd_eqnil (X := .ifc 66 (.agg #[.int .i64 e])) hT rfl (by simp) (by simp) (.inr ⟨_, _, rfl⟩) (eqnil_f _ _) ?_ rfl))
  refine vwd_cond (t := false) (by rfl) (fun h => by cases h) fun _ => vwd_skip ?_
  refine vwd_region_any hT hm ?_
  refine vany_plain [0, 3] (by kernel_rfl) (by simp) fun i hi => ?_
  simp only [List.mem_cons, List.not_mem_nil, or_false] at hi
  rcases hi with rfl | rfl
  · refine ⟨_, rfl, ?_⟩
    generalize hKK : vanyP _ _ _ _ _ _ = KK
    simp [vplain]
    subst hKK
    refine vany_plain [1, 3] (by kernel_rfl) (by simp) fun i hi => ?_
    simp only [List.mem_cons, List.not_mem_nil, or_false] at hi
    rcases hi with rfl | rfl
    · refine ⟨_, rfl, ?_⟩
      generalize hKK : vanyP _ _ _ _ _ _ = KK
      simp [vplain]
      subst hKK
      refine vany_plain [2, 3] (by kernel_rfl) (by simp) fun i hi => ?_
      simp only [List.mem_cons, List.not_mem_nil, or_false] at hi
      rcases hi with rfl | rfl
      · refine ⟨_, rfl, ?_⟩
        generalize hKK : vanyP _ _ _ _ _ _ = KK
        simp [vplain]
        subst hKK
        refine vany_plain [3] (by kernel_rfl) (by simp) fun i hi => ?_
        simp only [List.mem_cons, List.not_mem_nil, or_false] at hi
        subst hi
        refine ⟨_, rfl, ?_⟩
        generalize hKK : vanyP _ _ _ _ _ _ = KK
        simp [vplain]
        subst hKK
        refine vany_plain [4] (by kernel_rfl) (by simp) fun i hi => ?_
        simp only [List.mem_cons, List.not_mem_nil, or_false] at hi
        subst hi
        refine ⟨_, rfl, ?_⟩
        generalize hKK : vanyP _ _ _ _ _ _ = KK
        simp [vplain]
        subst hKK
        exact ⟨by kernel_rfl, .inl rfl, rfl, rfl⟩
      · refine ⟨_, rfl, ?_⟩
        generalize hKK : vanyP _ _ _ _ _ _ = KK
        simp [vplain]
        subst hKK
        refine vany_plain [2] (by kernel_rfl) (by simp) fun i hi => ?_
        simp only [List.mem_cons, List.not_mem_nil, or_false] at hi
        subst hi
        refine ⟨_, rfl, ?_⟩
        generalize hKK : vanyP _ _ _ _ _ _ = KK
        simp [vplain]
        subst hKK
        refine vany_plain [4] (by kernel_rfl) (by simp) fun i hi => ?_
        simp only [List.mem_cons, List.not_mem_nil, or_false] at hi
        subst hi
        refine ⟨_, rfl, ?_⟩
        generalize hKK : vanyP _ _ _ _ _ _ = KK
        simp [vplain]
        subst hKK
        exact ⟨by kernel_rfl, .inl rfl, rfl, rfl⟩
    · refine ⟨_, rfl, ?_⟩
      generalize hKK : vanyP _ _ _ _ _ _ = KK
      simp [vplain]
      subst hKK
      refine vany_plain [1] (by kernel_rfl) (by simp) fun i hi => ?_
      simp only [List.mem_cons, List.not_mem_nil, or_false] at hi
      subst hi
      refine ⟨_, rfl, ?_⟩
      generalize hKK : vanyP _ _ _ _ _ _ = KK
      simp [vplain]
      subst hKK
      refine vany_plain [2] (by kernel_rfl) (by simp) fun i hi => ?_
      simp only [List.mem_cons, List.not_mem_nil, or_false] at hi
      subst hi
      refine ⟨_, rfl, ?_⟩
      generalize hKK : vanyP _ _ _ _ _ _ = KK
      simp [vplain]
      subst hKK
      refine vany_plain [4] (by kernel_rfl) (by simp) fun i hi => ?_
      simp only [List.mem_cons, List.not_mem_nil, or_false] at hi
      subst hi
      refine ⟨_, rfl, ?_⟩
      generalize hKK : vanyP _ _ _ _ _ _ = KK
      simp [vplain]
      subst hKK
      exact ⟨by kernel_rfl, .inl rfl, rfl, rfl⟩
  · refine ⟨_, rfl, ?_⟩
    generalize hKK : vanyP _ _ _ _ _ _ = KK
    simp [vplain]
    subst hKK
    refine vany_plain [0] (by kernel_rfl) (by simp) fun i hi => ?_
    simp only [List.mem_cons, List.not_mem_nil, or_false] at hi
    subst hi
    refine ⟨_, rfl, ?_⟩
    generalize hKK : vanyP _ _ _ _ _ _ = KK
    simp [vplain]
    subst hKK
    refine vany_plain [1] (by kernel_rfl) (by simp) fun i hi => ?_
    simp only [List.mem_cons, List.not_mem_nil, or_false] at hi
    subst hi
    refine ⟨_, rfl, ?_⟩
    generalize hKK : vanyP _ _ _ _ _ _ = KK
    simp [vplain]
    subst hKK
    refine vany_plain [2] (by kernel_rfl) (by simp) fun i hi => ?_
    simp only [List.mem_cons, List.not_mem_nil, or_false] at hi
    subst hi
    refine ⟨_, rfl, ?_⟩
    generalize hKK : vanyP _ _ _ _ _ _ = KK
    simp [vplain]
    subst hKK
    refine vany_plain [4] (by kernel_rfl) (by simp) fun i hi => ?_
    simp only [List.mem_cons, List.not_mem_nil, or_false] at hi
    subst hi
    refine ⟨_, rfl, ?_⟩
    generalize hKK : vanyP _ _ _ _ _ _ = KK
    simp [vplain]
    subst hKK
    exact ⟨by kernel_rfl, .inl rfl, rfl, rfl⟩
end Go.Proofs.YtgmcflbbdpbkeaaDoor
