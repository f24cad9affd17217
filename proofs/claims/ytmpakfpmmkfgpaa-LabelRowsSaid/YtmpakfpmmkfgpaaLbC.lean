/- Stops in order: plain. -/
import Derived.Test.YtmpakfpmmkfgpaaLbB
namespace Go.Proofs.Ytmpakfpmmkfgpaa
open Go Go.VX Go.RowKit
set_option linter.unusedVariables false
set_option linter.unusedSimpArgs false
set_option maxHeartbeats 20000000
set_option maxRecDepth 100000

def cmpN (x y : Int) : Int := if x < y then -1 else if y < x then 1 else 0
theorem cmpN_lt {x y : Int} : cmpN x y < 0 ↔ x < y := by unfold cmpN; split <;> (try split) <;> simp_all
theorem cmpN_le {x y : Int} : 0 ≤ cmpN y x ↔ x ≤ y := by unfold cmpN; split <;> (try split) <;> simp_all <;> omega
theorem cmpN_zero {x y : Int} : cmpN x y = 0 ↔ x = y := by unfold cmpN; split <;> (try split) <;> simp_all <;> omega
def cfO (a b : Stp) : Int := cmpN a.oi b.oi
def cfL (a b : Stp) : Int := if cmpN a.et b.et = 0 then cmpN a.oi b.oi else cmpN a.et b.et
theorem ltO (a b : Stp) : Proofs.ltOf cfO a b = decide (a.oi < b.oi) := by
  simp [Proofs.ltOf, cfO, cmpN_lt]
theorem ltL (a b : Stp) : Proofs.ltOf cfL a b = lexB a b := by
  rw [Bool.eq_iff_iff]
  simp only [Proofs.ltOf, cfL, lexB, decide_eq_true_eq, Bool.or_eq_true, Bool.and_eq_true]
  split
  · rename_i h; rw [cmpN_zero] at h; simp only [cmpN_lt, decide_eq_true_eq]; omega
  · rename_i h; rw [cmpN_zero] at h; simp only [cmpN_lt, decide_eq_true_eq]; omega
theorem swoO : Sort.SWO (Proofs.ltOf cfO) where
  irrefl x := by rw [ltO]; simp
  trans x y z h1 h2 := by rw [ltO] at *; simp at *; omega
  ntrans x y z h1 h2 := by rw [ltO] at *; simp at *; omega
theorem swoL : Sort.SWO (Proofs.ltOf cfL) where
  irrefl x := by rw [ltL]; simp [lexB]
  trans x y z h1 h2 := by
    rw [ltL] at *; simp only [lexB, Bool.or_eq_true, Bool.and_eq_true, decide_eq_true_eq] at *; omega
  ntrans x y z h1 h2 := by
    rw [ltL] at *; simp only [lexB, Bool.or_eq_false_iff, Bool.and_eq_false_iff, decide_eq_false_iff_not] at *; omega
theorem srtO_perm (L : List Stp) : (srtO L).Perm L := List.mergeSort_perm _ _
theorem srtO_le (L : List Stp) : (srtO L).Pairwise fun a b => a.oi ≤ b.oi := by
  have := List.pairwise_mergeSort (le := leO) (fun a b c h1 h2 => by simp only [leO, decide_eq_true_eq] at *; omega) (fun a b => by simp only [leO, Bool.or_eq_true, decide_eq_true_eq]; omega) L
  exact this.imp fun h => by simpa [leO] using h
theorem strict_of {L : List Stp} (hn : (L.map (·.oi)).Nodup) (hs : L.Pairwise fun a b => a.oi ≤ b.oi) : L.Pairwise fun a b => a.oi < b.oi := by
  rw [List.Nodup, List.pairwise_map] at hn
  exact hs.imp₂ (fun a b h1 h2 => by omega) hn
theorem srtO_lt {L : List Stp} (hn : (L.map (·.oi)).Nodup) : (srtO L).Pairwise fun a b => a.oi < b.oi :=
  strict_of (((srtO_perm L).map _).nodup_iff.2 hn) (srtO_le L)
theorem srtO_unique {L m : List Stp} (hn : (L.map (·.oi)).Nodup) (hp : m.Perm L) (hs : m.Pairwise fun a b => 0 ≤ cfO b a) : m = srtO L := by
  have h1 : m.Pairwise fun a b => a.oi < b.oi := strict_of ((hp.map _).nodup_iff.2 hn) (hs.imp fun h => cmpN_le.1 h)
  refine List.Perm.eq_of_pairwise (le := fun a b : Stp => a.oi < b.oi) (fun a b _ _ h1 h2 => by omega) h1 (srtO_lt hn) (hp.trans (srtO_perm L).symm)
theorem lex_of {L m : List Stp} (hn : (L.map (·.oi)).Nodup) (hp : m.Perm L) (hs : m.Pairwise fun a b => 0 ≤ cfL b a) : m.Pairwise fun a b => lexB a b = true := by
  have h1 := (hp.map (·.oi)).nodup_iff.2 hn
  rw [List.Nodup, List.pairwise_map] at h1
  refine hs.imp₂ (fun a b h1 h2 => ?_) h1
  have h3 : Proofs.ltOf cfL b a = false := by simp only [Proofs.ltOf, decide_eq_false_iff_not]; omega
  rw [ltL] at h3
  simp only [lexB, Bool.or_eq_false_iff, Bool.and_eq_false_iff, decide_eq_false_iff_not] at h3
  simp only [lexB, Bool.or_eq_true, Bool.and_eq_true, decide_eq_true_eq]
  omega
end Go.Proofs.Ytmpakfpmmkfgpaa
