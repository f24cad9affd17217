/- Addresses and slices of slices: that the operations do what is said of them. -/
import Derived.Test.YthjpaongoflgiaaVXOp3
namespace Go.VX
set_option linter.unusedVariables false
set_option linter.unusedSimpArgs false
section
variable {P : Program} {T : Nat → Option TI} {w : World} {Φ : Nat → Prop} {H : Nat → Option Nat} {ob : List Ob}

/-- A pointer, moved on by so many cells. -/
theorem vadd_sound (hs : HSim Φ H ob w) {x y : V} {v : Value} (hx : VRep (mkE Φ H ob w) x v) {p : Prop} {cs : List V} {off n : Nat} (h : rdV ob x = some (p, cs, off)) (hp : p) (ha : vadd x n = some y) :
    ∃ b o, v = .pointer (some ⟨b, o, none⟩) ∧ VRep (mkE Φ H ob w) y (.pointer (some ⟨b, o + n, none⟩)) := by
  cases x <;> simp only [vadd, reduceCtorEq, Option.some.injEq] at ha
  · subst ha
    obtain ⟨b, o, us, rfl, h2, h3, h4⟩ := hx
    exact ⟨b, o, rfl, b, o + n, us.drop n, rfl, h2, reads_drop n h3, h4.drop n⟩
  · subst ha
    rename_i id tot o
    obtain ⟨h0, h1, h2⟩ := hx
    have : ∃ b, v = .pointer (some ⟨b, o, none⟩) := by
      simp only [rdV] at h
      split at h <;> simp only [Option.some.injEq, Prod.mk.injEq, reduceCtorEq] at h
      all_goals
        rename_i cs' ho
        obtain ⟨rfl, rfl, rfl⟩ := h
        obtain ⟨_, hh⟩ := h2 cs'.length (by simp [mkE, Lof, ho, Ob.len])
        obtain ⟨b, hb, hv⟩ := hh hp.symm
        exact ⟨b, hv⟩
    obtain ⟨b, rfl⟩ := this
    refine ⟨b, o, rfl, rfl, h1, fun T' hT' => ?_⟩
    obtain ⟨k1, k2⟩ := h2 T' hT'
    refine ⟨k1, fun e => ?_⟩
    obtain ⟨b', hb', hv'⟩ := k2 e
    simp only [Value.pointer.injEq, Option.some.injEq, Addr.mk.injEq] at hv'
    obtain ⟨rfl, _, _⟩ := hv'
    exact ⟨b, hb', rfl⟩

theorem vfieldAddr_sound (hT : TabOK P T) (hs : HSim Φ H ob w) {t f : Nat} {x y : V} {v : Value} (hx : VRep (mkE Φ H ob w) x v) {p : Prop} (h : vfieldAddr T ob t x f = some (p, y)) (hp : p) :
    ∃ u, (Instr.fieldAt t v f).run P w = .ok u w ∧ VRep (mkE Φ H ob w) y u := by
  unfold vfieldAddr at h
  split at h
  case h_2 => cases h
  rename_i fs _ _ _ p' cs' off' ht hrd
  split at h
  case h_2 => cases h
  rename_i o ft hf
  split at h
  case h_2 => cases h
  rename_i i hti
  split at h
  · cases h
  rename_i hsz
  split at h
  case h_2 => cases h
  rename_i y' hy
  simp only [Option.some.injEq, Prod.mk.injEq] at h
  obtain ⟨rfl, rfl⟩ := h
  obtain ⟨info, d, z, e1, e2, e3, e4, e5, e6, e7⟩ := hT t _ ht
  obtain ⟨a, rfl, rfl⟩ := kindOf_struct e3
  simp only [List.getElem?_map, Option.map_eq_some_iff, Prod.mk.injEq] at hf
  obtain ⟨fld, hfl, rfl, rfl⟩ := hf
  have hfl' : a[f]? = some fld := by simpa using hfl
  obtain ⟨b, o, rfl, hv⟩ := vadd_sound hs hx hrd hp hy
  obtain ⟨info', d', z', e1', _, _, e4', _⟩ := hT _ i hti
  have hs' := run_sizeOf_tab (P := P) (w := w) e1'
  rw [e4'] at hs'
  refine ⟨_, ?_, hv⟩
  simp [Instr.fieldAt, run_underlying e2, hfl', Instr.sureAddr, fieldPlace, hs', hsz, addr_add]

theorem vindexAddr_sound (hT : TabOK P T) (hs : HSim Φ H ob w) {t : Nat} {x y : V} {v : Value} (hx : VRep (mkE Φ H ob w) x v) {k : IntKind} {i : Int} {p : Prop} (h : vindexAddr T ob t x i = some (p, y)) (hp : p) :
    ∃ u, (Instr.indexAt t v (.int k i)).run P w = .ok u w ∧ VRep (mkE Φ H ob w) y u := by
  unfold vindexAddr at h
  split at h
  · rename_i n e _ _ _ ht
    split at h
    case h_2 => cases h
    rename_i ie p' cs' off' hte hrd
    split at h
    case h_2 => cases h
    rename_i y' hy
    simp only [Option.some.injEq, Prod.mk.injEq] at h
    obtain ⟨rfl, rfl⟩ := h
    obtain ⟨info, d, z, e1, e2, e3, e4, e5, e6, e7⟩ := hT t _ ht
    obtain rfl := kindOf_array e3
    obtain ⟨b, o, rfl, hv⟩ := vadd_sound hs hx hrd hp.2 hy
    obtain ⟨info', d', z', e1', _, _, e4', _⟩ := hT e ie hte
    have hs' := run_sizeOf_tab (P := P) (w := w) e1'
    rw [e4'] at hs'
    refine ⟨_, ?_, hv⟩
    simp [Instr.indexAt, asIntOf, run_underlying e2, Instr.sureAddr, hp.1, hs', addr_add]
  · rename_i e _ _ _ ht
    obtain ⟨info, d, z, e1, e2, e3, e4, e5, e6, e7⟩ := hT t _ ht
    obtain rfl := kindOf_slice e3
    split at h
    · rename_i ie n cs hte
      simp only [Option.some.injEq, Prod.mk.injEq] at h
      obtain ⟨rfl, rfl⟩ := h
      obtain ⟨h0, h1, h2⟩ := hp
      obtain ⟨ad, cap, us, rfl, _, hv, hu⟩ := hx
      have hl := hv.length
      obtain ⟨b, o, rfl, hphi, hr⟩ := hu (by omega)
      obtain ⟨info', d', z', e1', _, _, e4', _⟩ := hT e ie hte
      have hs' := run_sizeOf_tab (P := P) (w := w) e1'
      rw [e4'] at hs'
      refine ⟨.pointer (some ⟨b, o + i.toNat * ie.size, none⟩), ?_, b, o + i.toNat * ie.size, us.drop (i.toNat * ie.size), rfl, hphi, reads_drop _ hr, hv.drop _⟩
      simp [Instr.indexAt, asIntOf, run_underlying e2, h0, h1, hs', addr_add]
    · rename_i ie id tot esz off n hte
      split at h
      case h_2 => cases h
      rename_i p' n' cs' hrd
      split at h
      case isFalse => cases h
      rename_i hesz
      simp only [Option.some.injEq, Prod.mk.injEq] at h
      obtain ⟨rfl, rfl⟩ := h
      obtain ⟨h0, h1, h2, h3⟩ := hp
      obtain ⟨k0, k1, k2⟩ := hx
      have hob : ∃ cs'' : List V, Lof ob id = some cs''.length ∧ (cs''.length = tot) := by
        simp only [rdS] at hrd
        split at hrd <;> simp only [Option.some.injEq, Prod.mk.injEq, reduceCtorEq] at hrd
        all_goals
          rename_i cs'' ho
          obtain ⟨rfl, _, _⟩ := hrd
          exact ⟨cs'', by simp [Lof, ho, Ob.len], h3⟩
      obtain ⟨cs'', hL, hlen⟩ := hob
      obtain ⟨q1, q2⟩ := k2 _ hL
      have hv := q2 hlen.symm
      simp only [mkE] at hv
      cases hH : H id with
      | none =>
        rw [hH] at hv
        obtain ⟨_, _, rfl, _⟩ := hv
        simp at h1; omega
      | some b =>
        rw [hH] at hv
        obtain ⟨cap, rfl, g2, g3, g4⟩ := hv
        obtain ⟨info', d', z', e1', _, _, e4', _⟩ := hT e ie hte
        have hs' := run_sizeOf_tab (P := P) (w := w) e1'
        rw [e4'] at hs'
        refine ⟨.pointer (some ⟨b, off + i.toNat * ie.size, none⟩), ?_, rfl, k1, fun T' hT' => ?_⟩
        · simp [Instr.indexAt, asIntOf, run_underlying e2, h0, h1, hs', addr_add]
        · have e : T' = cs''.length := by rw [show (mkE Φ H ob w).L id = Lof ob id from rfl, hL] at hT'; exact (Option.some.inj hT').symm
          exact ⟨by omega, fun _ => ⟨b, hH, rfl⟩⟩
    · cases h
  · cases h


theorem sliceBounds_of {isS : Bool} {len cap : Nat} {lo hi : Option Int} {kl kh : IntKind} (h0 : 0 ≤ lo.getD 0) (h1 : lo.getD 0 ≤ hi.getD (len : Int)) (h2 : hi.getD (len : Int) ≤ (cap : Int)) :
    (Instr.sliceBounds isS len cap (lo.map (Value.int kl)) (hi.map (Value.int kh)) none).run P w = .ok ((lo.getD 0).toNat, (hi.getD (len : Int)).toNat, cap) w := by
  cases lo <;> cases hi <;> simp only [Option.getD_none, Option.getD_some] at h0 h1 h2
  · simp [Instr.sliceBounds]
  · rename_i h
    have hb : 0 ≤ h ∧ h ≤ (cap : Int) := ⟨h1, h2⟩
    simp [Instr.sliceBounds, Instr.sliceBound, asIntOf, hb]
  · rename_i l
    have hb : 0 ≤ l ∧ l ≤ (len : Int) := ⟨h0, h1⟩
    simp [Instr.sliceBounds, Instr.sliceBound, asIntOf, hb]
  · rename_i l h
    have hb : 0 ≤ h ∧ h ≤ (cap : Int) := ⟨by omega, h2⟩
    have hb2 : 0 ≤ l ∧ l ≤ max h 0 := ⟨h0, by omega⟩
    have hb3 : 0 ≤ l ∧ l ≤ h := ⟨h0, h1⟩
    have e : ((h.toNat : Nat) : Int) = h := by omega
    simp [Instr.sliceBounds, Instr.sliceBound, asIntOf, hb, hb2, hb3, e]

theorem vslice_sound (hT : TabOK P T) (hs : HSim Φ H ob w) {t : Nat} {x y : V} {v : Value} (hx : VRep (mkE Φ H ob w) x v) {lo hi : Option Int} {kl kh : IntKind} {p : Prop} (h : vslice T ob t x lo hi = some (p, y)) (hp : p) :
    ∃ u, (Instr.sliceAt t v (lo.map (Value.int kl)) (hi.map (Value.int kh)) none).run P w = .ok u w ∧ VRep (mkE Φ H ob w) y u := by
  unfold vslice at h
  split at h
  · rename_i _ _ _ ht
    split at h
    case h_2 => cases h
    rename_i s
    simp only [Option.some.injEq, Prod.mk.injEq] at h
    obtain ⟨rfl, rfl⟩ := h
    obtain ⟨info, d, z, e1, e2, e3, e4, e5, e6, e7⟩ := hT t _ ht
    obtain rfl := kindOf_string e3
    simp only [VRep] at hx; subst hx
    have hb := sliceBounds_of (P := P) (w := w) (isS := false) (len := s.size) (cap := s.size) (kl := kl) (kh := kh) hp.1 hp.2.1 hp.2.2
    refine ⟨_, ?_, rfl⟩
    simp [Instr.sliceAt, run_underlying e2, Instr.slice, hb]
  · rename_i e _ _ _ ht
    obtain ⟨info, d, z, e1, e2, e3, e4, e5, e6, e7⟩ := hT t _ ht
    obtain rfl := kindOf_slice e3
    split at h
    case h_2 => cases h
    rename_i ie p' n cs hte hrd
    obtain ⟨info', d', z', e1', _, _, e4', _⟩ := hT e ie hte
    have hs' := run_sizeOf_tab (P := P) (w := w) e1'
    rw [e4'] at hs'
    dsimp only at h
    split at h
    · rename_i id tot esz off n'
      split at h
      case isFalse => cases h
      rename_i hesz
      have hob : ∃ cs'' : List V, Lof ob id = some cs''.length ∧ (p' → cs''.length = tot) ∧ n = n' := by
        simp only [rdS] at hrd
        split at hrd <;> simp only [Option.some.injEq, Prod.mk.injEq, reduceCtorEq] at hrd
        all_goals
          rename_i cs'' ho
          obtain ⟨rfl, h2, _⟩ := hrd
          exact ⟨cs'', by simp [Lof, ho, Ob.len], fun q => q, h2.symm⟩
      obtain ⟨cs'', hL, hlen, rfl⟩ := hob
      obtain ⟨k0, k1, k2⟩ := hx
      obtain ⟨q1, q2⟩ := k2 _ hL
      have heq : ∀ T', (mkE Φ H ob w).L id = some T' → T' = cs''.length := fun T' hT' => by
        rw [show (mkE Φ H ob w).L id = Lof ob id from rfl, hL] at hT'; exact (Option.some.inj hT').symm
      split at h
      · simp only [Option.some.injEq, Prod.mk.injEq] at h
        obtain ⟨rfl, rfl⟩ := h
        obtain ⟨hp1, hp2, hp3⟩ := hp
        have hv := q2 (hlen hp1).symm
        simp only [mkE] at hv
        cases hH : H id with
        | none =>
          rw [hH] at hv
          obtain ⟨g1, g2, g3, rfl⟩ := hv
          subst g1 g2 g3
          have hh : (hi.getD ((0 : Nat) : Int)) = 0 := by omega
          have hb := sliceBounds_of (P := P) (w := w) (isS := true) (len := 0) (cap := 0) (lo := none) (hi := hi) (kl := kl) (kh := kh) (by simp) (by simpa using hp2) hp3
          refine ⟨.slice none 0 0, ?_, rfl, k1, fun T' hT' => ⟨by omega, fun _ => ?_⟩⟩
          · simp only [Option.map_none] at hb ⊢
            have hh' : hi.getD 0 = 0 := hh
            simp [Instr.sliceAt, run_underlying e2, Instr.slice, hb, hs', hh']
          · simp only [mkE, hH, hh, SlV]; simp
        | some b =>
          rw [hH] at hv
          obtain ⟨cap, rfl, g2, g3, g4⟩ := hv
          have hb := sliceBounds_of (P := P) (w := w) (isS := true) (len := n) (cap := cap) (lo := none) (hi := hi) (kl := kl) (kh := kh) (by simp) (by simpa using hp2) (by omega)
          refine ⟨.slice (some ⟨b, off, none⟩) (hi.getD (n : Int)).toNat cap, ?_, rfl, k1, fun T' hT' => ⟨by have := heq T' hT'; omega, fun _ => ?_⟩⟩
          · simp only [Option.map_none] at hb ⊢
            simp [Instr.sliceAt, run_underlying e2, Instr.slice, hb, hs', addr_add]
          · simp only [mkE, hH, SlV]
            refine ⟨cap, rfl, by omega, ?_, g4⟩
            have : (hi.getD (n : Int)).toNat * esz ≤ n * esz := Nat.mul_le_mul_right _ (by omega)
            omega
      · rename_i l
        simp only [Option.some.injEq, Prod.mk.injEq, Option.getD_some] at h
        obtain ⟨rfl, rfl⟩ := h
        obtain ⟨hp1, hp2, hp3, hp4⟩ := hp
        have hv := q2 (hlen hp1).symm
        simp only [mkE] at hv
        by_cases hlt : l < hi.getD (n : Int)
        case neg =>
          have hleq : hi.getD (n : Int) = l := by omega
          unfold vsub
          rw [if_neg hlt]
          cases hH : H id with
          | none =>
            rw [hH] at hv
            obtain ⟨g1, g2, g3, rfl⟩ := hv
            subst g3
            obtain rfl : l = 0 := by omega
            have hb := sliceBounds_of (P := P) (w := w) (isS := true) (len := 0) (cap := 0) (lo := some 0) (hi := hi) (kl := kl) (kh := kh) (by simp) (by simp; omega) (by omega)
            simp only [Option.getD_some, Option.map_some] at hb
            have hh' : hi.getD 0 = 0 := hleq
            refine ⟨.slice none 0 0, ?_, none, 0, [], rfl, Nat.le_refl _, rfl, fun h => by simp at h⟩
            simp [Instr.sliceAt, run_underlying e2, Instr.slice, hb, hs', hh']
          | some b =>
            rw [hH] at hv
            obtain ⟨cap, rfl, g2, g3, g4⟩ := hv
            have hb := sliceBounds_of (P := P) (w := w) (isS := true) (len := n) (cap := cap) (lo := some l) (hi := hi) (kl := kl) (kh := kh) (by simpa using hp2) (by simp; omega) (by omega)
            simp only [Option.getD_some, Option.map_some] at hb
            have hz : (hi.getD (n : Int)).toNat - l.toNat = 0 := by omega
            by_cases hne : cap = l.toNat
            · subst hne
              refine ⟨.slice (some ⟨b, off, none⟩) 0 0, ?_, some ⟨b, off, none⟩, 0, [], rfl, Nat.zero_le _, rfl, fun h => by simp at h⟩
              simp [Instr.sliceAt, run_underlying e2, Instr.slice, hb, hs', addr_add]
              try omega
            · refine ⟨.slice (some ⟨b, off + l.toNat * ie.size, none⟩) 0 (cap - l.toNat), ?_, some ⟨b, off + l.toNat * ie.size, none⟩, cap - l.toNat, [], rfl, Nat.zero_le _, rfl, fun h => by simp at h⟩
              simp [Instr.sliceAt, run_underlying e2, Instr.slice, hb, hs', hne, addr_add]
              try omega
        unfold vsub
        rw [if_pos hlt]
        cases hH : H id with
        | none =>
          rw [hH] at hv
          obtain ⟨g1, g2, g3, rfl⟩ := hv
          subst g3
          omega
        | some b =>
          rw [hH] at hv
          obtain ⟨cap, rfl, g2, g3, g4⟩ := hv
          have hb := sliceBounds_of (P := P) (w := w) (isS := true) (len := n) (cap := cap) (lo := some l) (hi := hi) (kl := kl) (kh := kh) (by simpa using hp2) (by simp; omega) (by omega)
          simp only [Option.getD_some, Option.map_some] at hb
          have hne : cap ≠ l.toNat := by omega
          refine ⟨.slice (some ⟨b, off + l.toNat * ie.size, none⟩) ((hi.getD (n : Int)).toNat - l.toNat) (cap - l.toNat), ?_, rfl, k1, fun T' hT' => ⟨by have := heq T' hT'; omega, fun _ => ?_⟩⟩
          · simp [Instr.sliceAt, run_underlying e2, Instr.slice, hb, hs', hne, addr_add]
          · simp only [mkE, hH, SlV]
            subst hesz
            have a1 : l.toNat * ie.size + ((hi.getD (n : Int)).toNat - l.toNat) * ie.size = (hi.getD (n : Int)).toNat * ie.size := by rw [← Nat.add_mul]; congr 1; omega
            have a2 : (hi.getD (n : Int)).toNat * ie.size ≤ n * ie.size := Nat.mul_le_mul_right _ (by omega)
            have a3 : l.toNat * ie.size + (cap - l.toNat) * ie.size = cap * ie.size := by rw [← Nat.add_mul]; congr 1; omega
            exact ⟨_, rfl, by omega, by omega, by omega⟩
    · rename_i hnsl
      simp only [Option.some.injEq, Prod.mk.injEq] at h
      obtain ⟨rfl, rfl⟩ := h
      obtain ⟨hp1, hp2, hp3, hp4, hp5⟩ := hp
      obtain ⟨ad, cap, us, rfl, hc, hv, hu⟩ : ∃ ad cap us, v = .slice ad n cap ∧ n ≤ cap ∧ VReps .frz (mkE Φ H ob w) cs us ∧ (0 < us.length → ∃ b o, ad = some ⟨b, o, none⟩ ∧ Φ b ∧ reads w b o us) := by
        cases x <;> simp only [rdS, reduceCtorEq, Option.some.injEq, Prod.mk.injEq] at hrd
        · obtain ⟨_, rfl, rfl⟩ := hrd
          simp only [VRep] at hx
          exact ⟨none, 0, [], hx, Nat.le_refl _, by simp [VReps], by simp⟩
        · obtain ⟨_, rfl, rfl⟩ := hrd
          exact hx
        · exact absurd rfl (hnsl _ _ _ _ _)
      have hb := sliceBounds_of (P := P) (w := w) (isS := true) (len := n) (cap := cap) (lo := lo) (hi := hi) (kl := kl) (kh := kh) hp2 hp3 (by omega)
      have hl := hv.length
      refine ⟨.slice (if cap = (lo.getD 0).toNat then ad else ad.map (·.add ((lo.getD 0).toNat * ie.size))) ((hi.getD (n : Int)).toNat - (lo.getD 0).toNat) (cap - (lo.getD 0).toNat), ?_, _, _, (us.drop ((lo.getD 0).toNat * ie.size)).take (((hi.getD (n : Int)).toNat - (lo.getD 0).toNat) * ie.size), rfl, by omega, (hv.drop _).take _, fun hlen => ?_⟩
      · simp [Instr.sliceAt, run_underlying e2, Instr.slice, hb, hs']
      · simp only [List.length_take, List.length_drop] at hlen
        have hpos : (hi.getD (n : Int)).toNat - (lo.getD 0).toNat ≠ 0 := fun e => by rw [e] at hlen; simp at hlen
        obtain ⟨b, o, rfl, hphi, hr⟩ := hu (by omega)
        rw [if_neg (by omega)]
        exact ⟨b, o + (lo.getD 0).toNat * ie.size, by simp [addr_add], hphi, reads_take _ (reads_drop _ hr)⟩
  · rename_i n e _ _ _ ht
    obtain ⟨info, d, z, e1, e2, e3, e4, e5, e6, e7⟩ := hT t _ ht
    obtain rfl := kindOf_array e3
    split at h
    case h_2 => cases h
    rename_i ie p' cs off hte hrd
    obtain ⟨info', d', z', e1', _, _, e4', _⟩ := hT e ie hte
    have hs' := run_sizeOf_tab (P := P) (w := w) e1'
    rw [e4'] at hs'
    dsimp only at h
    split at h
    · rename_i id tot o
      simp only [Option.some.injEq, Prod.mk.injEq] at h
      obtain ⟨rfl, rfl⟩ := h
      obtain ⟨hp0, hp1, hp2, hp3, hp4, hp5⟩ := hp
      have hrd' := hrd
      obtain ⟨k0, k1, k2⟩ := hx
      have hob : ∃ cs'' : List V, Lof ob id = some cs''.length ∧ cs''.length = tot := by
        simp only [rdV] at hrd
        split at hrd <;> simp only [Option.some.injEq, Prod.mk.injEq, reduceCtorEq] at hrd
        all_goals
          rename_i cs'' ho
          obtain ⟨rfl, _, _⟩ := hrd
          exact ⟨cs'', by simp [Lof, ho, Ob.len], hp0⟩
      obtain ⟨cs'', hL, hlen⟩ := hob
      obtain ⟨q1, q2⟩ := k2 _ hL
      obtain ⟨b, hb', rfl⟩ := q2 hlen.symm
      have hb := sliceBounds_of (P := P) (w := w) (isS := false) (len := n) (cap := n) (lo := lo) (hi := hi) (kl := kl) (kh := kh) hp1 hp2 hp3
      have hbs : tot ≤ bsize w b := by
        have hidlt : id < ob.length := k1
        obtain ⟨o1, ho1⟩ : ∃ o1, ob[id]? = some o1 := ⟨ob[id], by simp [List.getElem?_eq_getElem hidlt]⟩
        have hr := hs.rep id o1 ho1
        simp only [mkE] at hb'
        cases o1 with
        | live cs1 =>
          rw [hb'] at hr
          obtain ⟨c, el, g1, g2, g3, g4⟩ := hr
          have : cs1.length = cs''.length := by simpa [Lof, ho1, Ob.len] using hL
          have g1' : w.heap[b]? = some (.cells c el (0, 0)) := g1
          simp only [bsize, g1']; omega
        | frz cs1 =>
          rw [hb'] at hr
          obtain ⟨g1, us, g2, g3⟩ := hr
          have e : cs1.length = cs''.length := by simpa [Lof, ho1, Ob.len] using hL
          have hl := g3.length
          rcases Nat.eq_zero_or_pos tot with h0 | h0
          · omega
          · have hlast := g2 (us.length - 1) (by omega)
            have : ∃ u, us[us.length - 1]? = some u := ⟨us[us.length - 1]'(by omega), by rw [List.getElem?_eq_getElem (by omega)]⟩
            obtain ⟨u, hu⟩ := this
            rw [hu] at hlast
            simp only [World.cell?, Nat.zero_add] at hlast
            simp only [bsize]
            split at hlast
            · rename_i c el fz hc
              have hc' : w.heap[b]? = some (.cells c el fz) := hc
              simp only [hc']
              simp only [Option.isSome_none, Bool.false_eq_true, if_false] at hlast
              have := (Array.getElem?_eq_some_iff.1 hlast).1
              omega
            · cases hlast
        | map es bs ck => simp [rdV, ho1] at hrd'
        | iter m s sn l => simp [rdV, ho1] at hrd'
        | dead => simp [rdV, ho1] at hrd'
      refine ⟨.slice (some (if n = (lo.getD 0).toNat then ⟨b, o, none⟩ else (⟨b, o, none⟩ : Addr).add ((lo.getD 0).toNat * ie.size))) ((hi.getD (n : Int)).toNat - (lo.getD 0).toNat) (n - (lo.getD 0).toNat), ?_, rfl, k1, fun T' hT' => ⟨?_, fun _ => ?_⟩⟩
      · simp [Instr.sliceAt, run_underlying e2, Instr.sureAddr, hb, hs']
      · rw [show (mkE Φ H ob w).L id = Lof ob id from rfl, hL] at hT'
        have := Option.some.inj hT'
        omega
      · have hH : H id = some b := hb'
        simp only [mkE, hH, SlV]
        have a1 : (lo.getD 0).toNat * ie.size + ((hi.getD (n : Int)).toNat - (lo.getD 0).toNat) * ie.size = (hi.getD (n : Int)).toNat * ie.size := by rw [← Nat.add_mul]; congr 1; omega
        have a2 : (hi.getD (n : Int)).toNat * ie.size ≤ n * ie.size := Nat.mul_le_mul_right _ (by omega)
        have a3 : (lo.getD 0).toNat * ie.size + (n - (lo.getD 0).toNat) * ie.size = n * ie.size := by rw [← Nat.add_mul]; congr 1; omega
        refine ⟨n - (lo.getD 0).toNat, ?_, by omega, by omega, by omega⟩
        congr 1
        split
        · rename_i hn
          have : (lo.getD 0).toNat = 0 := by omega
          simp [this]
        · rw [addr_add]
    · rename_i cs1
      simp only [Option.some.injEq, Prod.mk.injEq] at h
      obtain ⟨rfl, rfl⟩ := h
      obtain ⟨hp1, hp2, hp3, hp4⟩ := hp
      obtain ⟨b, o, us, rfl, hphi, hr, hv⟩ := hx
      have hb := sliceBounds_of (P := P) (w := w) (isS := false) (len := n) (cap := n) (lo := lo) (hi := hi) (kl := kl) (kh := kh) hp1 hp2 hp3
      refine ⟨.slice (some (if n = (lo.getD 0).toNat then ⟨b, o, none⟩ else (⟨b, o, none⟩ : Addr).add ((lo.getD 0).toNat * ie.size))) ((hi.getD (n : Int)).toNat - (lo.getD 0).toNat) (n - (lo.getD 0).toNat), ?_, _, _, (us.drop ((lo.getD 0).toNat * ie.size)).take (((hi.getD (n : Int)).toNat - (lo.getD 0).toNat) * ie.size), rfl, by omega, (hv.drop _).take _, fun hlen => ?_⟩
      · simp [Instr.sliceAt, run_underlying e2, Instr.sureAddr, hb, hs']
      · simp only [List.length_take, List.length_drop] at hlen
        have hpos : (hi.getD (n : Int)).toNat - (lo.getD 0).toNat ≠ 0 := fun e => by rw [e] at hlen; simp at hlen
        rw [if_neg (by omega)]
        exact ⟨b, o + (lo.getD 0).toNat * ie.size, by simp [addr_add], hphi, reads_take _ (reads_drop _ hr)⟩
    · cases h
  · cases h

end
end Go.VX
