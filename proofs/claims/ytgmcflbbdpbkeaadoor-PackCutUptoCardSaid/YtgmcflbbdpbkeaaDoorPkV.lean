/- Bytes that end too early, or with one more. -/
import Derived.Test.YtgmcflbbdpbkeaaDoorPkT0
namespace Go.Proofs.YtgmcflbbdpbkeaaDoor
open Go Go.VX Go.RowKit
set_option linter.unusedVariables false
set_option linter.unusedSimpArgs false
set_option maxHeartbeats 20000000
set_option maxRecDepth 100000

theorem bytesP_prefix {S : List Int} : ∀ (m l : List PV) (i : Nat) (T : List Int), fitsV S i m = true → fitsV S i l = true → bytesP S i l = bytesP S i m ++ T → ∃ r, l = m ++ r ∧ T = bytesP S (i + m.length) r
  | [], l, i, T, _, _, h => ⟨l, rfl, by simpa [bytesP] using h.symm⟩
  | x :: m, [], i, T, _, _, h => by
    simp only [bytesP] at h
    have := valB_pos x (S.getD (i % S.length) 0)
    have e := congrArg List.length h
    simp only [List.length_append, List.length_nil] at e
    omega
  | x :: m, y :: l, i, T, hm, hl, h => by
    simp only [fitsV, Bool.and_eq_true] at hm hl
    simp only [bytesP] at h
    have h1 := takeV_fwd (bytesP S (i + 1) l) rfl hl.1
    rw [h, List.append_assoc, takeV_fwd (bytesP S (i + 1) m ++ T) rfl hm.1] at h1
    simp only [Except.ok.injEq, Prod.mk.injEq] at h1
    obtain ⟨rfl, h2⟩ := h1
    obtain ⟨r, g1, g2⟩ := bytesP_prefix m l (i + 1) T hm.2 hl.2 h2.symm
    exact ⟨r, by rw [g1]; rfl, by rw [g2, List.length_cons]; congr 1; omega⟩
theorem writeP_ok {f : ByteArray} {l : List PV} {W : List Int} (h : writeP f l = (W, 0)) : formF f = true ∧ wrongL (sL (formS f)) (formA f) l.length = false ∧ fitsV (sL (formS f)) 0 l = true ∧ bytesP (sL (formS f)) 0 l = W := by
  unfold writeP at h
  split at h
  · cases h
  rename_i hF
  split at h
  · cases h
  rename_i hw
  split at h
  · cases h
  rename_i hfi
  split at h
  · cases h
  simp only [Prod.mk.injEq, and_true] at h
  exact ⟨by simpa using hF, by simpa using hw, by simpa using hfi, h⟩
theorem formA_of {f : ByteArray} {a b : Nat} (h1 : wrongL (sL (formS f)) (formA f) a = false) (h2 : wrongL (sL (formS f)) (formA f) b = false) (h : a ≠ b) : formA f = true := by
  cases hA : formA f
  · rw [hA] at h1 h2
    simp [wrongL] at h1 h2
    omega
  · rfl
theorem cut_early {f : ByteArray} {l m : List PV} {W : List Int} {k : Nat} (h : writeP f l = (W, 0)) (hb : byteL W) (hk : k < W.length) (hr : readP f (W.take k) = (m, 0)) : m.length < l.length ∧ l.take m.length = m ∧ formA f = true := by
  obtain ⟨_, h2, h3, h4⟩ := writeP_ok h
  obtain ⟨g, _⟩ := read_write (fun x hx => hb x (List.mem_of_mem_take hx)) hr
  obtain ⟨_, g2, g3, g4⟩ := writeP_ok g
  obtain ⟨r, e1, e2⟩ := bytesP_prefix m l 0 (W.drop k) g3 h3 (by rw [h4, g4, List.take_append_drop])
  have hr0 : 0 < r.length := by
    cases r with
    | nil =>
      have := congrArg List.length e2
      simp [bytesP] at this
      omega
    | cons y r => simp
  have hlt : m.length < l.length := by rw [e1, List.length_append]; omega
  exact ⟨hlt, by rw [e1, List.take_left], formA_of h2 g2 (by omega)⟩
theorem cut_more {f : ByteArray} {l n : List PV} {W : List Int} {x : Int} (h : writeP f l = (W, 0)) (hb : byteL (W ++ [x])) (hr : readP f (W ++ [x]) = (n, 0)) : l.length < n.length ∧ n.take l.length = l ∧ formA f = true := by
  obtain ⟨_, h2, h3, h4⟩ := writeP_ok h
  obtain ⟨g, _⟩ := read_write hb hr
  obtain ⟨_, g2, g3, g4⟩ := writeP_ok g
  obtain ⟨r, e1, e2⟩ := bytesP_prefix l n 0 [x] h3 g3 (by rw [h4, g4])
  have hr0 : 0 < r.length := by
    cases r with
    | nil => simp [bytesP] at e2
    | cons y r => simp
  have hlt : l.length < n.length := by rw [e1, List.length_append]; omega
  exact ⟨hlt, by rw [e1, List.take_left], formA_of h2 g2 (by omega)⟩
theorem readP_most {f : ByteArray} {B : List Int} : (readP f B).1.length ≤ 200 := by
  unfold readP
  repeat' split
  all_goals first | (simp; done) | (simp only; omega)
end Go.Proofs.YtgmcflbbdpbkeaaDoor
