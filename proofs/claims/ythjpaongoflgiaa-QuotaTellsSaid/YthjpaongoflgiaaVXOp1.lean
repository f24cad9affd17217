/- What the operations make of abstract values: numbers, tests, memory that is read. -/
import Derived.Test.YthjpaongoflgiaaVXOps
namespace Go.VX
set_option linter.unusedVariables false
set_option linter.unusedSimpArgs false

def TK.isAgg : TK → Bool
  | .struct _ | .array _ _ => true
  | _ => false

section
variable {P : Program} {T : Nat → Option TI} {w : World}

theorem run_isAgg_tab {t : Nat} {d : TypeDesc} {k : TK} (hd : P.underlying t = some d) (hk : kindOf d = k) : (isAgg t).run P w = .ok k.isAgg w := by
  subst hk
  cases d <;> simp [isAgg, run_underlying hd, kindOf, TK.isAgg]

theorem run_sizeOf_tab {t : Nat} {i : TypeInfo} (hi : P.info? t = some i) : (sizeOf t).run P w = .ok i.size w := by
  simp [sizeOf, typeInfo, hi]

theorem addr_add (b o j : Nat) : (⟨b, o, none⟩ : Addr).add j = ⟨b, o + j, none⟩ := by
  unfold Addr.add
  split <;> simp_all
end

/-- Cells from a pointer on. -/
def rdV (ob : List Ob) : V → Option (Prop × List V × Nat)
  | .fp cs => some (True, cs, 0)
  | .ptr id tot off => match ob[id]? with
    | some (.live cs) | some (.frz cs) => some (cs.length = tot, cs, off)
    | _ => none
  | _ => none

/-- A slice's cells. -/
def rdS (ob : List Ob) : V → Option (Prop × Nat × List V)
  | .fs n cs => some (True, n, cs)
  | .nils => some (True, 0, [])
  | .sl id tot esz off n => match ob[id]? with
    | some (.live cs) | some (.frz cs) => some (cs.length = tot, n, (cs.drop off).take (n * esz))
    | _ => none
  | _ => none

theorem reads_take {w b o us} (n : Nat) (h : reads w b o us) : reads w b o (us.take n) := by
  intro i hi
  have : i < n ∧ i < us.length := by simp at hi; omega
  rw [h i this.2, List.getElem?_take, if_pos this.1]
theorem reads_drop {w b o us} (n : Nat) (h : reads w b o us) : reads w b (o + n) (us.drop n) := by
  intro i hi
  have : n + i < us.length := by simp at hi; omega
  have := h (n + i) this
  rw [Nat.add_assoc, this, List.getElem?_drop]

theorem reads_row {w : World} {b : Nat} {c : Array Value} {el : TypeId} {fz : Nat × Nat} (h : w.heap[b]? = some (.cells c el fz)) (off n : Nat) : reads w b off ((c.toList.take n).drop off) := by
  intro i hi
  have hi' : off + i < n ∧ off + i < c.size := by simp at hi; omega
  simp only [World.cell?, h, Option.isSome_none, Bool.false_eq_true, if_false]
  rw [List.getElem?_drop, List.getElem?_take, if_pos hi'.1]
  simp

theorem rdV_sound {Φ H ob w} (hs : HSim Φ H ob w) {x : V} {v : Value} (hx : VRep (mkE Φ H ob w) x v) {p : Prop} {cs : List V} {off : Nat} (h : rdV ob x = some (p, cs, off)) (hp : p) :
    ∃ b o us, v = .pointer (some ⟨b, o, none⟩) ∧ reads w b o us ∧ VReps .cell (mkE Φ H ob w) (cs.drop off) us := by
  cases x <;> simp only [rdV] at h <;> (try (simp at h; done))
  · rename_i cs'
    simp only [Option.some.injEq, Prod.mk.injEq] at h
    obtain ⟨_, rfl, rfl⟩ := h
    obtain ⟨b, o, us, h1, h2, h3, h4⟩ := hx
    exact ⟨b, o, us, h1, h3, by simpa using h4.weak⟩
  · rename_i id tot o
    obtain ⟨h0, h1, h2⟩ := hx
    cases ho : ob[id]? with
    | none => simp [ho] at h
    | some o' =>
      have hr := hs.rep id o' ho
      cases o' with
      | live cs' =>
        simp only [ho, Option.some.injEq, Prod.mk.injEq] at h
        obtain ⟨rfl, rfl, rfl⟩ := h
        obtain ⟨_, hh⟩ := h2 cs'.length (by simp [mkE, Lof, ho, Ob.len])
        obtain ⟨b, hb, hv⟩ := hh hp.symm
        simp only [mkE] at hb
        rw [hb] at hr
        obtain ⟨c, el, g1, g2, g3, g4⟩ := hr
        exact ⟨b, _, _, hv, reads_row g1 _ cs'.length, g4.drop _⟩
      | frz cs' =>
        simp only [ho, Option.some.injEq, Prod.mk.injEq] at h
        obtain ⟨rfl, rfl, rfl⟩ := h
        obtain ⟨_, hh⟩ := h2 cs'.length (by simp [mkE, Lof, ho, Ob.len])
        obtain ⟨b, hb, hv⟩ := hh hp.symm
        simp only [mkE] at hb
        rw [hb] at hr
        obtain ⟨g1, us, g2, g3⟩ := hr
        exact ⟨b, _, us.drop _, hv, by have := reads_drop o g2; rwa [Nat.zero_add] at this, g3.weak.drop _⟩
      | map es bs ck => simp [ho] at h
      | iter m s sn l => simp [ho] at h
      | dead => simp [ho] at h

theorem rdS_sound {Φ H ob w} (hs : HSim Φ H ob w) {x : V} {v : Value} (hx : VRep (mkE Φ H ob w) x v) {p : Prop} {n : Nat} {cs : List V} (h : rdS ob x = some (p, n, cs)) (hp : p) :
    ∃ ad cap us, v = .slice ad n cap ∧ n ≤ cap ∧ VReps .cell (mkE Φ H ob w) cs us ∧ (0 < us.length → ∃ b o, ad = some ⟨b, o, none⟩ ∧ reads w b o us) := by
  cases x <;> simp only [rdS] at h <;> (try (simp at h; done))
  · simp only [Option.some.injEq, Prod.mk.injEq] at h
    obtain ⟨_, rfl, rfl⟩ := h
    simp only [VRep] at hx
    exact ⟨none, 0, [], hx, Nat.le_refl _, by simp [VReps], by simp⟩
  · simp only [Option.some.injEq, Prod.mk.injEq] at h
    obtain ⟨_, rfl, rfl⟩ := h
    obtain ⟨ad, cap, us, h1, h2, h3, h4⟩ := hx
    exact ⟨ad, cap, us, h1, h2, h3.weak, fun hu => by obtain ⟨b, o, e, _, hr⟩ := h4 hu; exact ⟨b, o, e, hr⟩⟩
  · rename_i id tot esz o m
    obtain ⟨h0, h1, h2⟩ := hx
    cases ho : ob[id]? with
    | none => simp [ho] at h
    | some o' =>
      have hr := hs.rep id o' ho
      cases o' with
      | live cs' =>
        simp only [ho, Option.some.injEq, Prod.mk.injEq] at h
        obtain ⟨rfl, rfl, rfl⟩ := h
        obtain ⟨_, hh⟩ := h2 cs'.length (by simp [mkE, Lof, ho, Ob.len])
        have hv := hh hp.symm
        simp only [mkE] at hv hr
        cases hH : H id with
        | none =>
          rw [hH] at hv hr
          obtain ⟨e1, rfl, rfl, rfl⟩ := hv
          simp only [ObRep] at hr
          subst hr
          exact ⟨none, 0, [], rfl, Nat.le_refl _, by simp [VReps], by simp⟩
        | some b =>
          rw [hH] at hv hr
          obtain ⟨cap, k1, k2, k3, k4⟩ := hv
          obtain ⟨c, el, g1, g2, g3, g4⟩ := hr
          exact ⟨_, cap, _, k1, k2, (g4.drop o).take (m * esz), fun _ => ⟨b, o, rfl, reads_take _ (reads_row g1 _ _)⟩⟩
      | frz cs' =>
        simp only [ho, Option.some.injEq, Prod.mk.injEq] at h
        obtain ⟨rfl, rfl, rfl⟩ := h
        obtain ⟨_, hh⟩ := h2 cs'.length (by simp [mkE, Lof, ho, Ob.len])
        have hv := hh hp.symm
        simp only [mkE] at hv hr
        cases hH : H id with
        | none =>
          rw [hH] at hv hr
          obtain ⟨e1, rfl, rfl, rfl⟩ := hv
          simp only [ObRep] at hr
          subst hr
          exact ⟨none, 0, [], rfl, Nat.le_refl _, by simp [VReps], by simp⟩
        | some b =>
          rw [hH] at hv hr
          obtain ⟨cap, k1, k2, k3, k4⟩ := hv
          obtain ⟨g1, us, g2, g3⟩ := hr
          exact ⟨_, cap, _, k1, k2, (g3.weak.drop o).take (m * esz), fun _ => ⟨b, o, rfl, reads_take _ (by have := reads_drop o g2; rwa [Nat.zero_add] at this)⟩⟩
      | map es bs ck => simp [ho] at h
      | iter m s sn l => simp [ho] at h
      | dead => simp [ho] at h

/-! ### What an operation must be shown to do -/
def OpOK (P : Program) (o : Oper) (a : Act) (w : World) (Φ : Nat → Prop) (H : Nat → Option Nat) (ob : List Ob) (x : V) (ob' : List Ob) : Prop :=
  ∃ v w' Φ' H', ((execOp a.eval o).run P w = .ok (.value v) w' ∨ ((execOp a.eval o).run P w = .ok .skip w' ∧ v = undef)) ∧
    HStep Φ H ob w Φ' H' ob' w' ∧ VRep (mkE Φ' H' ob' w') x v

theorem OpOK.pure {P o a w Φ H ob x} (hs : HSim Φ H ob w) {v : Value} (hr : (execOp a.eval o).run P w = .ok (.value v) w) (hx : VRep (mkE Φ H ob w) x v) : OpOK P o a w Φ H ob x ob :=
  ⟨v, w, Φ, H, .inl hr, HStep.refl hs, hx⟩

/-- A load. -/
theorem load_sound {P : Program} {T : Nat → Option TI} (hT : TabOK P T) {w Φ H ob} (hs : HSim Φ H ob w) {t : Nat} {i : TI} (ht : T t = some i) {x : V} {v : Value} (hx : VRep (mkE Φ H ob w) x v)
    {p : Prop} {cs : List V} {off : Nat} (h : rdV ob x = some (p, cs, off)) (hp : p) :
    (i.k.isAgg = true → off + i.size ≤ cs.length → ∃ u, (Instr.loadAt t v).run P w = .ok u w ∧ VRep (mkE Φ H ob w) (.agg ((cs.drop off).take i.size)) u) ∧
    (i.k.isAgg = false → ∀ y, cs[off]? = some y → ∃ u, (Instr.loadAt t v).run P w = .ok u w ∧ VRep (mkE Φ H ob w) y u ∧ y.one = true) := by
  obtain ⟨info, d, z, e1, e2, e3, e4, e5, e6, e7⟩ := hT t i ht
  obtain ⟨b, o, us, rfl, hr, hv⟩ := rdV_sound hs hx h hp
  have hag := fun w => run_isAgg_tab (P := P) (w := w) e2 e3
  have hsz := fun w => run_sizeOf_tab (P := P) (w := w) e1
  refine ⟨fun ha hle => ?_, fun ha y hy => ?_⟩
  · have hlen := hv.length
    have hul : i.size ≤ us.length := by rw [← hlen]; simp; omega
    refine ⟨.agg (us.take i.size).toArray, ?_, ⟨_, rfl, by simpa using hv.take i.size⟩⟩
    have := run_loadCells_list (P := P) w ⟨b, o, none⟩ (us.take i.size) fun j u hj => by
      rw [addr_add]
      have hj' : j < i.size ∧ us[j]? = some u := by
        rw [List.getElem?_take] at hj
        split at hj
        · exact ⟨by assumption, hj⟩
        · simp at hj
      have hlt : j < us.length := by
        rcases Nat.lt_or_ge j us.length with q | q
        · exact q
        · simp [List.getElem?_eq_none q] at hj'
      rw [hr j hlt]; exact hj'.2
    have hl2 : (us.take i.size).length = i.size := by simp; omega
    rw [hl2] at this
    simp [Instr.loadAt, Instr.sureAddr, loadVar, hag, hsz, ha, e4, this]
  · have hy' : (cs.drop off)[0]? = some y := by simpa using hy
    obtain ⟨u, hu, ho, hyu⟩ := hv.get 0 y hy'
    have hlt : 0 < us.length := by
      rcases Nat.lt_or_ge 0 us.length with q | q
      · exact q
      · simp [List.getElem?_eq_none q] at hu
    have hc : w.cell? ⟨b, o, none⟩ = some u := by have := hr 0 hlt; simpa [hu] using this
    exact ⟨u, by simp [Instr.loadAt, Instr.sureAddr, loadVar, hag, ha, hc], hyu, ho⟩

end Go.VX
