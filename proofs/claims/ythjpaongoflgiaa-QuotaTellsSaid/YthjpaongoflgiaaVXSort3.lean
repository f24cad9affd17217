/- Sorting that keeps the order of what is alike: by stretches. -/
import Derived.Test.YthjpaongoflgiaaVXSort2
namespace Go.VX.Srt
set_option linter.unusedVariables false
section
variable {α : Type} {lt : α → α → Bool}
/-- A stretch is sorted, and has its own tags. -/
def SB (lt : α → α → Bool) (Z : List (α × Nat)) (lo hi : Nat) : Prop := Sorted lt (seg Z lo hi) ∧ ∀ x ∈ seg Z lo hi, lo ≤ x.2 ∧ x.2 < hi
theorem seg_parts {β : Type} (L : List β) {a m b : Nat} (h1 : a ≤ m) (h2 : m ≤ b) : L = L.take a ++ seg L a m ++ seg L m b ++ L.drop b := by
  have e1 := seg_split (Z := L) h2
  have e2 : L.take m = L.take a ++ seg L a m := by
    have := List.take_append_drop a (L.take m)
    rw [List.take_take, Nat.min_eq_left h1] at this
    exact this.symm
  rw [← e2]; exact e1
theorem seg_all {β : Type} {L : List β} {a b : Nat} (h : L.length ≤ b) : seg L a b = L.drop a := by
  unfold seg; rw [List.take_of_length_le h]
theorem SB.below {Z : List (α × Nat)} {a m b : Nat} (h1 : SB lt Z a m) (h2 : SB lt Z m b) : Below (seg Z a m) (seg Z m b) := fun x hx y hy => by
  have := (h1.2 x hx).2; have := (h2.2 y hy).1; omega
theorem SB.wide {Z : List (α × Nat)} {a b c : Nat} (h : SB lt Z a b) (hl : Z.length ≤ b) (hc : b ≤ c) : SB lt Z a c := by
  unfold SB at *
  rw [seg_all hl] at h
  rw [seg_all (by omega)]
  exact ⟨h.1, fun x hx => ⟨(h.2 x hx).1, by have := (h.2 x hx).2; omega⟩⟩
theorem SB.out {Z : List (α × Nat)} {a b : Nat} (h : Z.length ≤ a) : SB lt Z a b := by
  have e : seg Z a b = [] := by
    unfold seg
    rw [List.drop_eq_nil_of_le]
    exact Nat.le_trans (List.length_take_le' _ _) h
  unfold SB
  rw [e]
  exact ⟨List.Pairwise.nil, by simp⟩
/-- A stretch put anew: the others are as they were. -/
theorem SB.other {L : List (α × Nat)} {a b : Nat} {W : List (α × Nat)} (hab : a ≤ b) (hb : b ≤ L.length) (hW : W.length = b - a) {c d : Nat} (h : d ≤ a ∨ b ≤ c) (k : SB lt L c d) : SB lt (L.take a ++ W ++ L.drop b) c d := by
  have e1 := seg_split (Z := L) hab
  have lA : (L.take a).length = a := by rw [List.length_take]; omega
  have lS := seg_length (Z := L) (a := a) hb
  have e : seg (L.take a ++ W ++ L.drop b) c d = seg L c d := by
    rcases h with h | h
    · rw [seg_before (S' := seg L a b) (by omega), ← e1]
    · rw [seg_behind (S' := seg L a b) (by omega) (by omega), ← e1]
  unfold SB at *
  rw [e]; exact k
theorem SB.here {L : List (α × Nat)} {a b : Nat} {W : List (α × Nat)} (hab : a ≤ b) (hb : b ≤ L.length) (hW : W.length = b - a) (hs : Sorted lt W) (ht : ∀ x ∈ W, a ≤ x.2 ∧ x.2 < b) : SB lt (L.take a ++ W ++ L.drop b) a b := by
  have lA : (L.take a).length = a := by rw [List.length_take]; omega
  have e : seg (L.take a ++ W ++ L.drop b) a b = W := seg_of lA (by omega)
  unfold SB
  rw [e]; exact ⟨hs, ht⟩
theorem put_perm {β : Type} {L W : List β} {a b : Nat} (hab : a ≤ b) (h : W.Perm (seg L a b)) : (L.take a ++ W ++ L.drop b).Perm L := by
  conv => rhs; rw [seg_split (Z := L) hab]
  exact (List.Perm.append_left _ h).append_right _
/-- Two stretches merged. -/
theorem SB.merge {L : List (α × Nat)} {a m b : Nat} {W : List (α × Nat)} (h1 : a ≤ m) (h2 : m ≤ b) (hb : b ≤ L.length) (s1 : SB lt L a m) (s2 : SB lt L m b) (hM : Merged lt (seg L a m) (seg L m b) W) :
    (L.take a ++ W ++ L.drop b).Perm L ∧ SB lt (L.take a ++ W ++ L.drop b) a b ∧ ∀ c d, (d ≤ a ∨ b ≤ c) → SB lt L c d → SB lt (L.take a ++ W ++ L.drop b) c d := by
  have lW := hM.perm.length_eq
  rw [List.length_append, seg_length (by omega), seg_length hb] at lW
  have hp : W.Perm (seg L a b) := by
    refine hM.perm.trans ?_
    have : seg L a b = seg L a m ++ seg L m b := by
      have e1 := seg_parts L h1 h2
      have e2 := seg_split (Z := L) (Nat.le_trans h1 h2)
      rw [List.append_assoc (L.take a)] at e1
      have := e2.symm.trans e1
      exact List.append_cancel_left (List.append_cancel_right this)
    rw [this]
  refine ⟨put_perm (by omega) hp, SB.here (by omega) hb (by omega) hM.sorted fun x hx => ?_, fun c d h k => SB.other (by omega) hb (by omega) h k⟩
  rcases List.mem_append.1 (hM.perm.mem_iff.1 hx) with q | q
  · have := s1.2 x q; omega
  · have := s2.2 x q; omega
theorem zip_seg (l : List α) (a b : Nat) : (seg l.zipIdx a b).Pairwise (fun x y => x.2 < y.2) ∧ ∀ x ∈ seg l.zipIdx a b, a ≤ x.2 ∧ x.2 < b := by
  refine ⟨?_, fun x hx => ?_⟩
  · have h2 : (l.zipIdx.map Prod.snd).Pairwise (· < ·) := by
      rw [List.zipIdx_map_snd]; exact List.pairwise_lt_range'
    rw [List.pairwise_map] at h2
    unfold seg
    exact h2.sublist ((List.drop_sublist _ _).trans (List.take_sublist _ _))
  · obtain ⟨i, hi, e⟩ := List.getElem_of_mem hx
    have e2 : (seg l.zipIdx a b)[i]? = some x := by rw [List.getElem?_eq_getElem hi, e]
    unfold seg at e2
    rw [List.getElem?_drop, List.getElem?_take] at e2
    split at e2
    · rw [List.getElem?_zipIdx] at e2
      rcases h : l[a + i]? with _ | y
      · rw [h] at e2; simp at e2
      · rw [h] at e2
        simp only [Option.map_some, Option.some.injEq] at e2
        subst e2
        simp only
        omega
    · cases e2
theorem seg_drop {β : Type} {L M : List β} {a b : Nat} (h : L.drop a = M.drop a) : seg L a b = seg M a b := by
  unfold seg
  rw [List.drop_take, List.drop_take, h]
/-- A stretch of what came, sorted by putting in. -/
theorem SB.ins {l : List α} {L : List (α × Nat)} {a b : Nat} {S : List (α × Nat)} (hab : a ≤ b) (hb : b ≤ L.length) (hd : L.drop a = l.zipIdx.drop a) (hp : S.Perm (seg L a b)) (hs : Sorted lt S) :
    (L.take a ++ S ++ L.drop b).Perm L ∧ SB lt (L.take a ++ S ++ L.drop b) a b ∧ (∀ c d, (d ≤ a ∨ b ≤ c) → SB lt L c d → SB lt (L.take a ++ S ++ L.drop b) c d) ∧ (L.take a ++ S ++ L.drop b).drop b = l.zipIdx.drop b := by
  have lS := hp.length_eq
  rw [seg_length hb] at lS
  refine ⟨put_perm hab hp, SB.here hab hb lS hs fun x hx => ?_, fun c d h k => SB.other hab hb lS h k, ?_⟩
  · have := hp.mem_iff.1 hx
    rw [seg_drop hd] at this
    exact (zip_seg l a b).2 x this
  · rw [drop3 (by rw [List.length_take]; omega)]
    have : b - (L.take a).length - S.length = 0 := by rw [List.length_take]; omega
    rw [this, List.drop_zero]
    have h2 := congrArg (List.drop (b - a)) hd
    rw [List.drop_drop, List.drop_drop] at h2
    rwa [show a + (b - a) = b by omega] at h2
end
end Go.VX.Srt
